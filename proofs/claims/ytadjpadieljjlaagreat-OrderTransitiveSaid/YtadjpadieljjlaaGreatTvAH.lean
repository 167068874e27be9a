/- Parts of the proof that no input makes the law false: OrArg, OrBoth, OrGrow, OrConcat, OrRel, OrForm, OrShape, OrVld. -/
import Derived.Lib.AppendZerosOnto
import Derived.Laws.AppendOwnNone
import Derived.Maps.AppendAt
import Derived.Laws.EntriesVeiled
import Derived.Deep.CutBlock
import Derived.Deep.DeepCutAuto
import Derived.StillTailTactics
import Derived.Test.YtadjpadieljjlaaGreatTvAB
import Derived.Test.YtadjpadieljjlaaGreatTvAC
import Derived.Test.YtadjpadieljjlaaGreatTvAG
set_option linter.unusedVariables false
set_option linter.unusedSimpArgs false
namespace Go.Proofs.YtadjpadieljjlaaGreat
open Go.RowKit
theorem two_alloc (w : World) (X Y : Obj) : ((w.alloc X).alloc Y).drew.heap[w.heap.size + 1]? = some Y := by
 have h := heap_alloc_new (w.alloc X) Y
 have e : (w.alloc X).heap.size = w.heap.size + 1 := by simp
 rw [e] at h
 exact h
theorem proof_size : (Tryz.prog.info? 39).map (·.size) = some 4 := by kernel_rfl
theorem results_proof2 {fn : Func} {p u : Tmp} (h : fn.results = #[.cell p 39, .tmp u]) (tmps : Array Value) (w : World) (g : Nat) (v0 v1 v2 v3 : Value) (hp : tmps.getD p undef = .pointer (some ⟨g, 0, none⟩)) (hg : w.heap[g]? = some (.cells #[v0, v1, v2, v3] 39 (0, 0))) :
  (results fn tmps).run Tryz.prog w = .ok (.tuple #[.agg #[v0, v1, v2, v3], tmps.getD u undef]) w := by
 rw [results_cell_tmp h, hp]
 simp [asAddr, run_loadVar_row w g _ _ _ _ _ hg Tryz.underlying39 rfl proof_size, Result.andThen]
theorem results_proof {fn : Func} {p : Tmp} (h : fn.results = #[.cell p 39]) (tmps : Array Value) (w : World) (g : Nat) (v0 v1 v2 v3 : Value) (hp : tmps.getD p undef = .pointer (some ⟨g, 0, none⟩)) (hg : w.heap[g]? = some (.cells #[v0, v1, v2, v3] 39 (0, 0))) :
  (results fn tmps).run Tryz.prog w = .ok (.agg #[v0, v1, v2, v3]) w :=
 results_cell_row h tmps w g _ _ _ _ hp hg Tryz.underlying39 rfl proof_size
def ArgAns (w : World) (r : Option (List Lfc.Link)) (e : Ending) (w' : World) : Prop :=
 ((r = none ∧ e = .returned (.tuple #[.agg #[.int .i64 0, .slice none 0 0, .slice none 0 0, .slice none 0 0], .bool false])) ∨ (∃ l A c, r = some l ∧ e = .returned (.tuple #[.agg #[.int .i64 0, .slice none 0 0, .slice A l.length c, .slice none 0 0], .bool true]) ∧ l.length ≤ c ∧ LinksP (fun b => w.heap.size ≤ b) w' A l)) ∧ Below w.heap.size w w'
structure ProvO (w : World) (Bx : Nat) (F0 A0 L R : Option Addr) (nf f0 : Nat) (ks : List Int) (c0 : Nat) (ts us : List Lfc.Raw) (cl cr : Nat) : Prop where
 lt : Bx < w.heap.size
 facts : w.cell? ⟨Bx, 0, none⟩ = some (.slice F0 nf f0)
 kinds : w.cell? ⟨Bx, 1, none⟩ = some (.slice A0 ks.length c0)
 left : w.cell? ⟨Bx, 2, none⟩ = some (.slice L ts.length cl)
 right : w.cell? ⟨Bx, 3, none⟩ = some (.slice R us.length cr)
 ks : IntsO w A0 ks
 ts : TreesAt w L ts
 us : TreesAt w R us
theorem ProvO.below {w w' : World} {Bx : Nat} {F0 A0 L R : Option Addr} {nf f0 : Nat} {ks : List Int} {c0 : Nat} {ts us : List Lfc.Raw} {cl cr : Nat} (h : ProvO w Bx F0 A0 L R nf f0 ks c0 ts us cl cr) (hb : Below w.heap.size w w') : ProvO w' Bx F0 A0 L R nf f0 ks c0 ts us cl cr :=
 ⟨Nat.lt_of_lt_of_le h.lt hb.size, (hb.cell (p := ⟨Bx, 0, none⟩) h.lt).trans h.facts, (hb.cell (p := ⟨Bx, 1, none⟩) h.lt).trans h.kinds, (hb.cell (p := ⟨Bx, 2, none⟩) h.lt).trans h.left, (hb.cell (p := ⟨Bx, 3, none⟩) h.lt).trans h.right, h.ks.below hb, h.ts.below hb, h.us.below hb⟩
set_option maxRecDepth 100000 in
set_option maxHeartbeats 8000000 in
theorem oArgProve_any (Bx : Nat) (F0 A0 L R : Option Addr) (f0 : Nat) (ks : List Int) (c0 : Nat) (ts us : List Lfc.Raw) (cl cr i j : Nat) (w : World) (hks : ks.length ≤ 1000000) (hP : ProvO w Bx F0 A0 L R 0 f0 ks c0 ts us cl cr) (hi : i < ts.length) (hj : j < us.length) (hsi : ts[i].size ≤ 1000000) (hsj : us[j].size ≤ 1000000) (hil : i ≤ 1000000) (hjl : j ≤ 1000000) :
  Calls Tryz.prog 158 #[.agg #[.int .i64 (i : Int), .int .i64 (j : Int)], .pointer (some ⟨Bx, 0, none⟩), .int .i64 1] w (ArgAns w (Lfc.chain0 ks ts[i] us[j] 2)) := by
 obtain ⟨b, o, k1, n1, p1, xs, B, c1, rfl, hb, ht, d0, d1, d2, d3, hcu, hB, hT⟩ := hP.ts.at_ hi
 obtain ⟨b', o', k2, n2, p2, ys, B', c2, rfl, hb', ht', e0, e1, e2, e3, hcu', hB', hT'⟩ := hP.us.at_ hj
 obtain ⟨t, hT0⟩ : ∃ t, ts[i] = t := ⟨_, rfl⟩
 obtain ⟨u, hU0⟩ : ∃ u, us[j] = u := ⟨_, rfl⟩
 rw [hT0] at hsi hT ⊢
 rw [hU0] at hsj hT' ⊢
 have HP := Lib.hid hP
 have HT := Lib.hid hT
 have HT' := Lib.hid hT'
 obtain ⟨nts, hnts⟩ : ∃ n, ts.length = n := ⟨_, rfl⟩
 obtain ⟨nus, hnus⟩ : ∃ n, us.length = n := ⟨_, rfl⟩
 obtain ⟨w1, hw1⟩ : ∃ w1, w.alloc (.cells #[.int .i64 (i : Int), .int .i64 (j : Int)] 123) = w1 := ⟨_, rfl⟩
 obtain ⟨w2, hw2⟩ : ∃ w2, w1.alloc (.cells #[.int .i64 0, .slice none 0 0, .slice none 0 0, .slice none 0 0] 39) = w2 := ⟨_, rfl⟩
 have b1 : Below w.heap.size w w1 := by rw [← hw1]; exact (Below.refl _ _).alloc (Nat.le_refl _) _
 have b2 : Below w1.heap.size w1 w2 := by rw [← hw2]; exact (Below.refl _ _).alloc (Nat.le_refl _) _
 have q1 : w1.heap[w.heap.size]? = some (.cells #[.int .i64 (i : Int), .int .i64 (j : Int)] 123 (0, 0)) := by rw [← hw1]; exact heap_alloc_new _ _
 have q2 : w2.heap[w1.heap.size]? = some (.cells #[.int .i64 0, .slice none 0 0, .slice none 0 0, .slice none 0 0] 39 (0, 0)) := by rw [← hw2]; exact heap_alloc_new _ _
 have l1 := lt_of_block q1
 have l2 := lt_of_block q2
 have b02 : Below w.heap.size w w2 := b1.trans (b2.mono (by omega))
 have B02 := Lib.hid b02
 have s02 : w.heap.size ≤ w2.heap.size := by omega
 have Q2 := Lib.hid q2
 obtain ⟨y0, y1⟩ := cells2e ((b2.block _ l1).trans q1)
 have hp2 := hP.below b02
 have x2 := hp2.left
 have x3 := hp2.right
 rw [hnts] at x2 hi
 rw [hnus] at x3 hj
 have f0' := (b02.cell (p := ⟨b, o + i * 4, none⟩) hb).trans d0
 have f1' := (b02.cell (p := ⟨b, o + i * 4 + 1, none⟩) hb).trans d1
 have f2' := (b02.cell (p := ⟨b, o + i * 4 + 2, none⟩) hb).trans d2
 have f3' := (b02.cell (p := ⟨b, o + i * 4 + 3, none⟩) hb).trans d3
 have g0' := (b02.cell (p := ⟨b', o' + j * 4, none⟩) hb').trans e0
 have g1' := (b02.cell (p := ⟨b', o' + j * 4 + 1, none⟩) hb').trans e1
 have g2' := (b02.cell (p := ⟨b', o' + j * 4 + 2, none⟩) hb').trans e2
 have g3' := (b02.cell (p := ⟨b', o' + j * 4 + 3, none⟩) hb').trans e3
 have SX : Hid ((w2.cell? ⟨Bx, 2, none⟩ = some (.slice (some ⟨b, o, none⟩) nts cl) ∧ w2.cell? ⟨Bx, 3, none⟩ = some (.slice (some ⟨b', o', none⟩) nus cr)) ∧ (w2.cell? ⟨w.heap.size, 0, none⟩ = some (.int .i64 (i : Int)) ∧ w2.cell? ⟨w.heap.size, 1, none⟩ = some (.int .i64 (j : Int))) ∧ (w2.cell? ⟨b, o + i * 4, none⟩ = some (.int .i64 k1) ∧ w2.cell? ⟨b, o + i * 4 + 1, none⟩ = some (S n1) ∧ w2.cell? ⟨b, o + i * 4 + 2, none⟩ = some (.int .i64 p1) ∧ w2.cell? ⟨b, o + i * 4 + 3, none⟩ = some (.slice B xs.length c1)) ∧ (w2.cell? ⟨b', o' + j * 4, none⟩ = some (.int .i64 k2) ∧ w2.cell? ⟨b', o' + j * 4 + 1, none⟩ = some (S n2) ∧ w2.cell? ⟨b', o' + j * 4 + 2, none⟩ = some (.int .i64 p2) ∧ w2.cell? ⟨b', o' + j * 4 + 3, none⟩ = some (.slice B' ys.length c2))) := Lib.hid ⟨⟨x2, x3⟩, ⟨y0, y1⟩, ⟨f0', f1', f2', f3'⟩, ⟨g0', g1', g2', g3'⟩⟩
 have m1 := World.new_ne w2 _ x2
 have m2 := World.new_ne w2 _ y0
 have m3 := World.new_ne w2 _ f0'
 have m4 := World.new_ne w2 _ g0'
 simp only at m1 m2 m3 m4
 have hi0 : (0 : Int) ≤ (i : Int) := Int.natCast_nonneg _
 have hi1 : (i : Int) < (nts : Int) := by omega
 have hj0 : (0 : Int) ≤ (j : Int) := Int.natCast_nonneg _
 have hj1 : (j : Int) < (nus : Int) := by omega
 obtain ⟨r, hr⟩ : ∃ r, Lfc.chain0 ks t u 2 = r := ⟨_, rfl⟩
 rw [hr]
 have HR := Lib.hid hr
 clear hr hT hT' hP hp2 q1 q2 b1 b2 b02 ht ht' hB hB' d0 d1 d2 d3 e0 e1 e2 e3 hT0 hU0 hnts hnus
 go_enter Tryz.func158, Tryz.ntmps158
 go_upto_region 1 with fail
 clear hw1 hw2
 go_region_held3 (fun W => (W.cell? ⟨Bx, 2, none⟩ = some (.slice (some ⟨b, o, none⟩) nts cl) ∧ W.cell? ⟨Bx, 3, none⟩ = some (.slice (some ⟨b', o', none⟩) nus cr)) ∧ (W.cell? ⟨w.heap.size, 0, none⟩ = some (.int .i64 (i : Int)) ∧ W.cell? ⟨w.heap.size, 1, none⟩ = some (.int .i64 (j : Int))) ∧ (W.cell? ⟨b, o + i * 4, none⟩ = some (.int .i64 k1) ∧ W.cell? ⟨b, o + i * 4 + 1, none⟩ = some (S n1) ∧ W.cell? ⟨b, o + i * 4 + 2, none⟩ = some (.int .i64 p1) ∧ W.cell? ⟨b, o + i * 4 + 3, none⟩ = some (.slice B xs.length c1)) ∧ (W.cell? ⟨b', o' + j * 4, none⟩ = some (.int .i64 k2) ∧ W.cell? ⟨b', o' + j * 4 + 1, none⟩ = some (S n2) ∧ W.cell? ⟨b', o' + j * 4 + 2, none⟩ = some (.int .i64 p2) ∧ W.cell? ⟨b', o' + j * 4 + 3, none⟩ = some (.slice B' ys.length c2)))
  (first | exact SX.out | go_keep)
  (fail)
 ·obtain ⟨w5, hw5⟩ : ∃ w5, ((w2.alloc (.cells #[.int .i64 k1, S n1, .int .i64 p1, .slice B xs.length c1] 51)).alloc (.cells #[.int .i64 k2, S n2, .int .i64 p2, .slice B' ys.length c2] 51)).drew = w5 := ⟨_, rfl⟩
  rw [hw5]
  have b5 : Below w2.heap.size w2 w5 := by rw [← hw5]; exact (((Below.refl _ _).alloc (Nat.le_refl _) _).alloc (by simp) _).drew
  have s5 : w5.heap.size = w2.heap.size + 2 := by rw [← hw5]; simp [World.drew]
  have qa : w5.heap[w2.heap.size]? = some (.cells #[.int .i64 k1, S n1, .int .i64 p1, .slice B xs.length c1] 51 (0, 0)) := by
   rw [← hw5]
   exact (Below.heap_alloc _ _ _ (by simp)).trans (heap_alloc_new _ _)
  have qb : w5.heap[w2.heap.size + 1]? = some (.cells #[.int .i64 k2, S n2, .int .i64 p2, .slice B' ys.length c2] 51 (0, 0)) := by
   rw [← hw5]
   exact two_alloc _ _ _
  obtain ⟨y0, y1, y2, y3⟩ := cells4t qa
  obtain ⟨z0, z1, z2, z3⟩ := cells4t qb
  have hp5 := HP.out.below (B02.out.trans (b5.mono s02))
  have CH := Lib.hid (oChain0_any Bx ks A0 F0 c0 f0 2 t u _ _ w5 hks hsi hsj hp5.ks (HT.out.below (B02.out.trans (b5.mono s02))) (HT'.out.below (B02.out.trans (b5.mono s02))) hp5.facts hp5.kinds hp5.lt)
  rw [HR.out] at CH
  have B5 := Lib.hid (B02.out.trans (b5.mono s02))
  have Q5 := Lib.hid ((b5.block _ l2).trans Q2.out)
  clear hw5 hp5 qa qb b5
  go_wp2_with fail
  refine CH.out.mono ?_
  rintro e w6 ⟨⟨rfl, rfl⟩ | ⟨l, Al, cll, rfl, rfl, hcl, hl⟩, b6⟩
  ·obtain ⟨s1, s2, s3, s4, h1, h2, h3, h4, ⟨c0', c1', c2', c3'⟩, ⟨t0, t1, t2, t3⟩, hq, ho⟩ := put4 ((b6.block _ (by omega)).trans Q5.out) (.int .i64 0) (.slice none 0 0) (.slice none 0 0) (.slice none 0 0)
   have HQ := Lib.hid hq
   have HZ : Hid (ArgAns w none (.returned (.tuple #[.agg #[.int .i64 0, .slice none 0 0, .slice none 0 0, .slice none 0 0], .bool false])) s4) := Lib.hid ⟨.inl ⟨rfl, rfl⟩, Oth.below (B5.out.trans (b6.mono B5.out.size)) ho (by omega) (Nat.le_trans B5.out.size b6.size)⟩
   clear hq ho b6 y0 y1 y2 y3 z0 z1 z2 z3 CH
   go_wp2_with fail
   refine bodyPost_ret (results_proof2 rfl _ _ _ _ _ _ _ rfl HQ.out) rfl ?_
   exact HZ.out
  ·obtain ⟨s1, s2, s3, s4, h1, h2, h3, h4, ⟨c0', c1', c2', c3'⟩, ⟨t0, t1, t2, t3⟩, hq, ho⟩ := put4 ((b6.block _ (by omega)).trans Q5.out) (.int .i64 0) (.slice none 0 0) (.slice Al l.length cll) (.slice none 0 0)
   have HQ := Lib.hid hq
   have HZ : Hid (ArgAns w (some l) (.returned (.tuple #[.agg #[.int .i64 0, .slice none 0 0, .slice Al l.length cll, .slice none 0 0], .bool true])) s4) := Lib.hid ⟨.inr ⟨l, Al, cll, rfl, rfl, hcl, hl.keep (fun b hb hlt => ho.block b hlt (fun e => by have e := Option.some.inj e; have hb : w5.heap.size ≤ b := hb; omega)) ho.size (fun b _ hb => Nat.le_trans B5.out.size hb)⟩, Oth.below (B5.out.trans (b6.mono B5.out.size)) ho (by omega) (Nat.le_trans B5.out.size b6.size)⟩
   clear hq ho b6 y0 y1 y2 y3 z0 z1 z2 z3 CH hl
   go_wp2_with fail
   refine bodyPost_ret (results_proof2 rfl _ _ _ _ _ _ _ rfl HQ.out) rfl ?_
   exact HZ.out
 ·obtain ⟨w5, hw5⟩ : ∃ w5, ((w2.alloc (.cells #[.int .i64 k2, S n2, .int .i64 p2, .slice B' ys.length c2] 51)).alloc (.cells #[.int .i64 k1, S n1, .int .i64 p1, .slice B xs.length c1] 51)).drew = w5 := ⟨_, rfl⟩
  rw [hw5]
  have b5 : Below w2.heap.size w2 w5 := by rw [← hw5]; exact (((Below.refl _ _).alloc (Nat.le_refl _) _).alloc (by simp) _).drew
  have s5 : w5.heap.size = w2.heap.size + 2 := by rw [← hw5]; simp [World.drew]
  have qa : w5.heap[w2.heap.size]? = some (.cells #[.int .i64 k2, S n2, .int .i64 p2, .slice B' ys.length c2] 51 (0, 0)) := by
   rw [← hw5]
   exact (Below.heap_alloc _ _ _ (by simp)).trans (heap_alloc_new _ _)
  have qb : w5.heap[w2.heap.size + 1]? = some (.cells #[.int .i64 k1, S n1, .int .i64 p1, .slice B xs.length c1] 51 (0, 0)) := by
   rw [← hw5]
   exact two_alloc _ _ _
  obtain ⟨y0, y1, y2, y3⟩ := cells4t qb
  obtain ⟨z0, z1, z2, z3⟩ := cells4t qa
  have hp5 := HP.out.below (B02.out.trans (b5.mono s02))
  have CH := Lib.hid (oChain0_any Bx ks A0 F0 c0 f0 2 t u _ _ w5 hks hsi hsj hp5.ks (HT.out.below (B02.out.trans (b5.mono s02))) (HT'.out.below (B02.out.trans (b5.mono s02))) hp5.facts hp5.kinds hp5.lt)
  rw [HR.out] at CH
  have B5 := Lib.hid (B02.out.trans (b5.mono s02))
  have Q5 := Lib.hid ((b5.block _ l2).trans Q2.out)
  clear hw5 hp5 qa qb b5
  go_wp2_with fail
  refine CH.out.mono ?_
  rintro e w6 ⟨⟨rfl, rfl⟩ | ⟨l, Al, cll, rfl, rfl, hcl, hl⟩, b6⟩
  ·obtain ⟨s1, s2, s3, s4, h1, h2, h3, h4, ⟨c0', c1', c2', c3'⟩, ⟨t0, t1, t2, t3⟩, hq, ho⟩ := put4 ((b6.block _ (by omega)).trans Q5.out) (.int .i64 0) (.slice none 0 0) (.slice none 0 0) (.slice none 0 0)
   have HQ := Lib.hid hq
   have HZ : Hid (ArgAns w none (.returned (.tuple #[.agg #[.int .i64 0, .slice none 0 0, .slice none 0 0, .slice none 0 0], .bool false])) s4) := Lib.hid ⟨.inl ⟨rfl, rfl⟩, Oth.below (B5.out.trans (b6.mono B5.out.size)) ho (by omega) (Nat.le_trans B5.out.size b6.size)⟩
   clear hq ho b6 y0 y1 y2 y3 z0 z1 z2 z3 CH
   go_wp2_with fail
   refine bodyPost_ret (results_proof2 rfl _ _ _ _ _ _ _ rfl HQ.out) rfl ?_
   exact HZ.out
  ·obtain ⟨s1, s2, s3, s4, h1, h2, h3, h4, ⟨c0', c1', c2', c3'⟩, ⟨t0, t1, t2, t3⟩, hq, ho⟩ := put4 ((b6.block _ (by omega)).trans Q5.out) (.int .i64 0) (.slice none 0 0) (.slice Al l.length cll) (.slice none 0 0)
   have HQ := Lib.hid hq
   have HZ : Hid (ArgAns w (some l) (.returned (.tuple #[.agg #[.int .i64 0, .slice none 0 0, .slice Al l.length cll, .slice none 0 0], .bool true])) s4) := Lib.hid ⟨.inr ⟨l, Al, cll, rfl, rfl, hcl, hl.keep (fun b hb hlt => ho.block b hlt (fun e => by have e := Option.some.inj e; have hb : w5.heap.size ≤ b := hb; omega)) ho.size (fun b _ hb => Nat.le_trans B5.out.size hb)⟩, Oth.below (B5.out.trans (b6.mono B5.out.size)) ho (by omega) (Nat.le_trans B5.out.size b6.size)⟩
   clear hq ho b6 y0 y1 y2 y3 z0 z1 z2 z3 CH hl
   go_wp2_with fail
   refine bodyPost_ret (results_proof2 rfl _ _ _ _ _ _ _ rfl HQ.out) rfl ?_
   exact HZ.out
end Go.Proofs.YtadjpadieljjlaaGreat
namespace Go.Proofs.YtadjpadieljjlaaGreat
open Go.RowKit
set_option maxRecDepth 100000 in
set_option maxHeartbeats 4000000 in
theorem oBothArg_any (a b : Int) (w : World) :
  Calls Tryz.prog 36 #[.agg #[.int .i64 1, .int .i64 a, .slice none 0 0], .agg #[.int .i64 1, .int .i64 b, .slice none 0 0]] w fun e w' => e = .returned (.iface 123 (.agg #[.int .i64 a, .int .i64 b])) ∧ Below w.heap.size w w' := by
 obtain ⟨w1, hw1⟩ : ∃ w1, w.alloc (.cells #[.int .i64 1, .int .i64 a, .slice none 0 0] 26) = w1 := ⟨_, rfl⟩
 obtain ⟨w2, hw2⟩ : ∃ w2, w1.alloc (.cells #[.int .i64 1, .int .i64 b, .slice none 0 0] 26) = w2 := ⟨_, rfl⟩
 have b1 : Below w.heap.size w w1 := by rw [← hw1]; exact (Below.refl _ _).alloc (Nat.le_refl _) _
 have b2 : Below w1.heap.size w1 w2 := by rw [← hw2]; exact (Below.refl _ _).alloc (Nat.le_refl _) _
 have q1 : w1.heap[w.heap.size]? = some (.cells #[.int .i64 1, .int .i64 a, .slice none 0 0] 26 (0, 0)) := by rw [← hw1]; exact heap_alloc_new _ _
 have q2 : w2.heap[w1.heap.size]? = some (.cells #[.int .i64 1, .int .i64 b, .slice none 0 0] 26 (0, 0)) := by rw [← hw2]; exact heap_alloc_new _ _
 have l1 := lt_of_block q1
 have b02 : Below w.heap.size w w2 := b1.trans (b2.mono (by omega))
 have HB := Lib.hid b02
 obtain ⟨y0, y1, y2⟩ := cells3o ((b2.block _ l1).trans q1)
 obtain ⟨z0, z1, z2⟩ := cells3o q2
 clear b1 b2 q1 q2 b02
 go_enter Tryz.func36, Tryz.ntmps36
 go_wp2_with fail
 go_loopw [10] (fun i wr => i = .int .i64 0 ∧ wr = w2) (fun i _ => 0)
 case atStart => exact ⟨rfl, rfl⟩
 case round =>
  obtain ⟨rfl, hwx⟩ := hrel
  subst hwx
  go_wp2_with fail
  go_ret
  exact ⟨rfl, HB.out⟩
end Go.Proofs.YtadjpadieljjlaaGreat
namespace Go.Proofs.YtadjpadieljjlaaGreat
open Go.RowKit Go.Maps
set_option maxRecDepth 100000 in
set_option maxHeartbeats 4000000 in
theorem growT_any (n : Nat) (w : World) (hn : n ≤ 10000000) :
  Calls Tryz.prog 89 #[.slice none 0 0, .int .i64 (n : Int)] w fun e w' => (∃ v, e = .returned v ∧ w'.ownsRow w.heap.size 51 4 v 0 []) ∧ Below w.heap.size w w' := by
 obtain ⟨i0, hi, hz0, hz1, hz2⟩ := info_parts termInfo
 by_cases h0 : n = 0
 ·subst h0
  have h2 : IntKind.i64.wrap (0 - 0) = 0 := by decide
  simp only [Int.natCast_zero]
  go_enter Tryz.func89, Tryz.ntmps89
  go_wp2_with fail
  go_ret
  exact ⟨⟨_, rfl, World.ownsRow_nil w w.heap.size _ 4⟩, Below.refl _ _⟩
 ·have hn0 : ¬ ((n : Int) < 0) := by omega
  have h1 : IntKind.i64.wrap (0 - 0) = 0 := by decide
  have h2 : IntKind.i64.wrap ((n : Int) - 0) = (n : Int) := by rw [IntWalk.i64_in _ (by omega)]; omega
  have h3 : (n : Int) > 0 := by omega
  have h4 : decide ((n : Int) > 0) = true := by rw [decide_eq_true_eq]; exact h3
  have h5 : decide ((n : Int) < 0) = false := by rw [decide_eq_false_iff_not]; exact hn0
  have hold : (Builtin.firstCells i0.size 0 (.slice none 0 0)).run Tryz.prog w.drew = .ok (#[] : Array Value) w.drew := run_firstCells_none w.drew i0.size 0 0 0
  have hr : ∀ ty, (Builtin.append_ #[27, 3] ty #[.slice none 0 0, .int .i64 (n : Int)]).run Tryz.prog w = .ok (.slice (some ⟨w.heap.size, 0, none⟩) n (grownCap w n 0 51)) (w.drew.alloc (.cells (Builtin.zeroCells #[.int .i64 0, S [], .int .i64 0, .slice none 0 0] n ++ Builtin.zeroCells #[.int .i64 0, S [], .int .i64 0, .slice none 0 0] (grownCap w n 0 51 - n)) 51)) := fun ty => by
   have h := Lib.run_append_grow_zeros w 27 3 ty 51 i0 _ .i64 .i64 Tryz.underlying27 Tryz.underlying3 hi hz0 none 0 0 [] hold n (by omega) (by omega) (by omega) (by omega) (by rw [hz2]; omega) (by rw [Nat.zero_add]; exact growslice_fits (by omega) (by rw [hz2]; omega))
   rw [show (Value.agg #[.int .i64 0, S [], .int .i64 0, .slice none 0 0]).cells = #[.int .i64 0, S [], .int .i64 0, .slice none 0 0] from rfl] at h
   simpa using h
  have hG := grownCap_ge w n 0 51
  have hG2 := grownCap_le_maxLen w n 0 51 (by unfold maxLen; omega)
  obtain ⟨G, hG0⟩ : ∃ G, grownCap w n 0 51 = G := ⟨_, rfl⟩
  rw [hG0] at hr hG hG2
  obtain ⟨w1, hw1⟩ : ∃ w1, w.drew.alloc (.cells (Builtin.zeroCells #[.int .i64 0, S [], .int .i64 0, .slice none 0 0] n ++ Builtin.zeroCells #[.int .i64 0, S [], .int .i64 0, .slice none 0 0] (G - n)) 51) = w1 := ⟨_, rfl⟩
  rw [hw1] at hr
  have HZ : Hid (w1.ownsRow w.heap.size 51 4 (.slice (some ⟨w.heap.size, 0, none⟩) 0 G) 0 [] ∧ Below w.heap.size w w1) := Lib.hid (by
   refine ⟨⟨rfl, .inr ⟨w.heap.size, G, _, rfl, Nat.le_refl _, by rw [← hw1]; exact heap_alloc_new w.drew _, Nat.zero_le _, hG2, ?_, ?_⟩⟩, ?_⟩
   ·rw [Array.size_append, size_zeroCells, size_zeroCells]
    show n * 4 + (G - n) * 4 = G * 4
    omega
   ·simp
   ·rw [← hw1]; exact ((Below.refl _ _).drew).alloc (Nat.le_refl _) _)
  have hG3 : (0 : Int) ≤ (G : Int) := Int.natCast_nonneg _
  unfold maxLen at hG2
  clear hG0 hw1 hold
  go_enter Tryz.func89, Tryz.ntmps89
  go_wp2_with (at_builtin; refine Lib.wpList_append_run _ rfl _ _ _ _ rfl _ _ rfl rfl _ _ (hr _) ?_)
  all_goals
   go_ret
   exact ⟨⟨_, rfl, HZ.out.1⟩, HZ.out.2⟩
end Go.Proofs.YtadjpadieljjlaaGreat
namespace Go.Proofs.YtadjpadieljjlaaGreat
open Go.RowKit Go.Maps
structure Part where
 A : Option Addr
 n : Nat
 c : Nat
 xs : List Value
def partsN : List Part → Nat
 | [] => 0
 | p :: r => p.n + partsN r
def partsX : List Part → List Value
 | [] => []
 | p :: r => p.xs ++ partsX r
theorem partsN_append : ∀ (l r : List Part), partsN (l ++ r) = partsN l + partsN r
 | [], r => by simp [partsN]
 | p :: l, r => by rw [List.cons_append, partsN, partsN, partsN_append l r]; omega
theorem partsX_append : ∀ (l r : List Part), partsX (l ++ r) = partsX l ++ partsX r
 | [], r => by simp [partsX]
 | p :: l, r => by rw [List.cons_append, partsX, partsX, partsX_append l r, List.append_assoc]
theorem partsN_succ {l : List Part} {k : Nat} (h : k < l.length) : partsN (l.take (k + 1)) = partsN (l.take k) + l[k].n := by
 rw [List.take_succ_eq_append_getElem h, partsN_append]; simp [partsN]
theorem partsX_succ {l : List Part} {k : Nat} (h : k < l.length) : partsX (l.take (k + 1)) = partsX (l.take k) ++ l[k].xs := by
 rw [List.take_succ_eq_append_getElem h, partsX_append]; simp [partsX]
theorem partsN_take (l : List Part) (k : Nat) : partsN (l.take k) ≤ partsN l := by
 have := partsN_append (l.take k) (l.drop k)
 rw [List.take_append_drop] at this
 omega
def PartsO (w : World) (g o : Nat) (Ls : List Part) : Prop := ∀ k (h : k < Ls.length), w.cell? ⟨g, o + k, none⟩ = some (.slice Ls[k].A Ls[k].n Ls[k].c) ∧ Ls[k].xs.length = Ls[k].n * 4 ∧ (Ls[k].A = none → Ls[k].n = 0 ∧ Ls[k].c = 0) ∧ (∀ a, Ls[k].A = some a → ∀ j u, Ls[k].xs[j]? = some u → w.cell? (a.add j) = some u) ∧ (∀ u ∈ Ls[k].xs, u.oneCell' = true)
theorem PartsO.below {w w' : World} {g o : Nat} {Ls : List Part} (h : PartsO w g o Ls) (hb : Below w.heap.size w w') : PartsO w' g o Ls := fun k hk => by
 obtain ⟨h1, h2, h3, h4, h5⟩ := h k hk
 exact ⟨(hb.cell (World.block_lt_of_cell? w _ h1)).trans h1, h2, h3, fun a ha j u hj => (hb.cell (World.block_lt_of_cell? w _ (h4 a ha j u hj))).trans (h4 a ha j u hj), h5⟩
set_option maxRecDepth 100000 in
set_option maxHeartbeats 4000000 in
theorem concatT_any (g o c : Nat) (Ls : List Part) (w : World) (hL : Ls.length ≤ 1000) (hN : partsN Ls ≤ 10000000) (hP : PartsO w g o Ls) :
  Calls Tryz.prog 59 #[.slice (some ⟨g, o, none⟩) Ls.length c] w fun e w' => (∃ v, e = .returned v ∧ w'.ownsRow w.heap.size 51 4 v (partsN Ls) (partsX Ls)) ∧ Below w.heap.size w w' := by
 obtain ⟨i0, hi, hz0, hz1, hz2⟩ := info_parts termInfo
 have HP := Lib.hid hP
 clear hP
 obtain ⟨N, hNN⟩ : ∃ N, partsN Ls = N := ⟨_, rfl⟩
 have HNN := Lib.hid hNN
 have hN2 : N ≤ 10000000 := by omega
 clear hN hNN
 have CG := Lib.hid (growT_any N w hN2)
 go_enter Tryz.func59, Tryz.ntmps59
 go_wp2_with fail
 go_loopw [3, 11] (fun s i wr => ∃ k : Nat, k ≤ Ls.length ∧ s = .int .i64 (partsN (Ls.take k) : Nat) ∧ i = .int .i64 (k : Int) ∧ wr = w) (fun _ i _ => Ls.length - (intOf i).toNat)
 case atStart => exact ⟨0, by omega, by simp [partsN], by simp, by simp⟩
 case round =>
  obtain ⟨k, hk, rfl, rfl, hwx⟩ := hrel
  subst hwx
  by_cases hlt : k < Ls.length
  ·obtain ⟨h1, h2, h3, h4, h5⟩ := HP.out k hlt
   have HS := Lib.hid (partsN_succ hlt)
   have hT : partsN (Ls.take (k + 1)) ≤ N := by rw [← HNN.out]; exact partsN_take _ _
   have hsum : partsN (Ls.take k) + Ls[k].n ≤ N := by rw [← HS.out]; exact hT
   have hi0 : (0 : Int) ≤ (k : Int) := Int.natCast_nonneg _
   have hi1 : (k : Int) < (Ls.length : Int) := by omega
   have hwr : IntKind.i64.wrap ((partsN (Ls.take k) : Int) + (Ls[k].n : Int)) = (partsN (Ls.take k) : Int) + (Ls[k].n : Int) := IntWalk.i64_in _ (by omega)
   have hd : decide ((partsN (Ls.take k) : Int) + (Ls[k].n : Int) < 0) = false := by rw [decide_eq_false_iff_not]; omega
   have hd2 : ¬ ((partsN (Ls.take k) : Int) + (Ls[k].n : Int) < 0) := by omega
   clear h2 h3 h4 h5 hT
   go_wp2_with fail
   go_roundw
   case rel => exact ⟨k + 1, by omega, by rw [HS.out]; go_num, by go_num, by simp⟩
   case measure => simp [intOf]; omega
  ·obtain rfl : k = Ls.length := by omega
   have hTE : partsN (Ls.take Ls.length) = N := by rw [List.take_length]; exact HNN.out
   rw [hTE]
   clear hTE
   go_wp2_with fail
   refine CG.out.mono ?_
   rintro e w2 ⟨⟨v, rfl, hown⟩, hb⟩
   have HW := Lib.hid (show w2.ownsRow wr.heap.size 51 4 v (partsN (Ls.take 0)) (partsX (Ls.take 0)) ∧ Below wr.heap.size wr w2 from ⟨hown, hb⟩)
   clear hown hb CG
   obtain ⟨wq, hwq⟩ : ∃ wq, wq = wr := ⟨_, rfl⟩
   subst hwq
   go_wp2_with fail
   go_loopw [6, 27] (fun v i wr => ∃ k : Nat, k ≤ Ls.length ∧ i = .int .i64 (k : Int) ∧ Hid (wr.ownsRow wq.heap.size 51 4 v (partsN (Ls.take k)) (partsX (Ls.take k)) ∧ Below wq.heap.size wq wr)) (fun _ i _ => Ls.length - (intOf i).toNat)
   case atStart => exact ⟨0, by omega, rfl, HW⟩
   case round =>
    obtain ⟨k, hk, rfl, HI⟩ := hrel
    obtain ⟨hown, hb⟩ := HI.out
    by_cases hlt : k < Ls.length
    ·obtain ⟨h1, h2, h3, h4, h5⟩ := (HP.out.below hb) k hlt
     have HS := Lib.hid (partsN_succ hlt)
     have HX := Lib.hid (partsX_succ hlt)
     have hT : partsN (Ls.take (k + 1)) ≤ N := by rw [← HNN.out]; exact partsN_take _ _
     have hsum : partsN (Ls.take k) + Ls[k].n ≤ N := by rw [← HS.out]; exact hT
     have hi0 : (0 : Int) ≤ (k : Int) := Int.natCast_nonneg _
     have hi1 : (k : Int) < (Ls.length : Int) := by omega
     generalize Ls[k] = P at *
     obtain ⟨PA, Pn, Pc, Px⟩ := P
     simp only at h1 h2 h3 h4 h5 hsum HS HX
     have HO := Lib.hid hown
     have HB := Lib.hid hb
     clear hown hb HI HW
     cases PA with
     | none =>
      obtain ⟨rfl, rfl⟩ := h3 rfl
      have hx0 : Px = [] := List.length_eq_zero_iff.1 (by omega)
      clear h2 h3 h4 h5
      go_wp2_with (at_builtin; refine wpList_append_own_none rfl _ _ 27 rfl wq.heap.size 51 i0 4 Tryz.underlying27 hi _ _ _ rfl HO.out rfl ?_)
      go_roundw
      case rel => exact ⟨k + 1, by omega, by go_num, Lib.hid ⟨by rw [HS.out, HX.out, hx0, Nat.add_zero, List.append_nil]; exact HO.out, HB.out⟩⟩
      case measure => simp [intOf]; omega
     | some a =>
      have H4 := Lib.hid (h4 a rfl)
      have H5 := Lib.hid h5
      have H2 := Lib.hid h2
      clear h2 h3 h4 h5
      go_wp2_with (at_builtin; refine wpList_append_own_at _ rfl _ _ 27 rfl wq.heap.size 51 i0 _ 4 56 Tryz.underlying27 hi hz0 hz1 hz2 rfl (by decide) _ _ _ rfl HO.out a Pn Pc Px rfl H2.out H4.out H5.out (by unfold maxLen; omega) (by omega) HB.out.size ?_)
      intro v9 w9 hown9 hg9 _ _
      have HZ : Hid (w9.ownsRow wq.heap.size 51 4 v9 (partsN (Ls.take (k + 1))) (partsX (Ls.take (k + 1))) ∧ Below wq.heap.size wq w9) := Lib.hid ⟨by rw [HS.out, HX.out]; exact hown9, Below.grown HB.out hg9 HB.out.size (fun b e => (HO.out.lt b e).1)⟩
      clear hown9 hg9
      go_wp2_with fail
      go_roundw
      case rel => exact ⟨k + 1, by omega, by go_num, HZ⟩
      case measure => simp [intOf]; omega
    ·obtain rfl : k = Ls.length := by omega
     rw [List.take_length] at hown
     have HZ := Lib.hid (And.intro hown hb)
     clear hown hb HI
     go_wp2_with fail
     go_ret
     exact ⟨⟨_, rfl, HZ.out.1⟩, HZ.out.2⟩
end Go.Proofs.YtadjpadieljjlaaGreat
namespace Go.Proofs.YtadjpadieljjlaaGreat
open Go.RowKit
set_option maxRecDepth 100000 in
set_option maxHeartbeats 1000000 in
theorem oRel_any (r : Int) (w : World) : Calls Tryz.prog 61 #[.int .i64 r] w fun e w' => e = .returned (.bool (r == 1 || r == 2 || r == 3)) ∧ w' = w := by
 go_enter Tryz.func61, Tryz.ntmps61
 go_wp2_with fail
 all_goals
  go_ret
  exact ⟨ret_bool (by simp_all), rfl⟩
end Go.Proofs.YtadjpadieljjlaaGreat
namespace Go.Proofs.YtadjpadieljjlaaGreat
open Go.RowKit
set_option maxRecDepth 100000 in
set_option maxHeartbeats 2000000 in
theorem oCount_any (m : Nat) (hmm : m ≤ 1000000) : ∀ (o : Lfc.Ord) (v : Value) (lim : Int) (w : World), o.size ≤ m → 0 ≤ lim → lim ≤ 1000 → OrdV w o v →
  Calls Tryz.prog 84 #[v, .int .i64 lim] w fun e w' => e = .returned (.int .i64 (o.cnt lim)) ∧ Below w.heap.size w w' := by
 induction m with
 | zero => intro o v lim w h _ _ _; have := o.size_pos; omega
 | succ m ih0 =>
  intro o v lim w hm hl0 hl1 hv
  have ih := ih0 (by omega)
  clear ih0
  obtain ⟨kd, ar, ts⟩ := o
  obtain ⟨A, c, rfl, hc, hA⟩ := hv.open_
  simp only [Lfc.Ord.size] at hm
  have hlen := Lfc.Ord.sizes_len ts
  have IH := Lib.hid ih
  have HSP := Lib.hid (fun (k : Nat) (h : k < ts.length) (l : Int) (h0 : 0 ≤ l) => Lfc.cnt_spec _ ts[k] l (Nat.le_refl _) h0)
  have b0 : Below w.heap.size w (w.alloc (.cells #[.int .i64 kd, .int .i64 ar, .slice A ts.length c] 26)) := (Below.refl _ _).alloc (Nat.le_refl _) _
  have HA := Lib.hid hA
  have HR : Hid (Lfc.Ord.cnt (.node kd ar ts) lim = Lfc.Ord.cnts ts lim 1) := Lib.hid rfl
  rw [HR.out]
  clear ih hA hv HR
  go_enter Tryz.func84, Tryz.ntmps84
  go_wp2_with fail
  go_loopw [5, 11] (fun n i wr => ∃ (k : Nat) (q : Int), k ≤ ts.length ∧ i = .int .i64 k ∧ n = .int .i64 q ∧ 1 ≤ q ∧ q ≤ 1 + (Lfc.Ord.sizes (ts.take k) : Int) ∧ Hid (Lfc.Ord.cnts (ts.drop k) lim q = Lfc.Ord.cnts ts lim 1) ∧ Below w.heap.size w wr) (fun _ i _ => ts.length - (intOf i).toNat)
  case atStart => exact ⟨0, 1, by omega, rfl, rfl, by omega, by simp [Lfc.Ord.sizes], Lib.hid (by simp), b0⟩
  case round =>
   obtain ⟨k, q, hk, rfl, rfl, hq1, hq2, HC, hbw⟩ := hrel
   have hle := Lfc.Ord.sizes_take_le ts k
   by_cases hlt : k < ts.length
   ·obtain ⟨b, o, k1, a1, us, B, c1, rfl, hb, ht, d0, d1, d2, hcu, hB, hT⟩ := (HA.out.below hbw).at_ hlt
    have hst := Lfc.Ord.sizes_take ts k hlt
    have hmem := Lfc.Ord.sizes_mem ts ts[k] (List.getElem_mem _)
    have HD : Hid (Lfc.Ord.cnts (ts[k] :: ts.drop (k + 1)) lim q = Lfc.Ord.cnts ts lim 1) := Lib.hid (by rw [← List.drop_eq_getElem_cons hlt]; exact HC.out)
    have b1 : Below wr.heap.size wr (wr.alloc (.cells #[.int .i64 k1, .int .i64 a1, .slice B us.length c1] 26)) := (Below.refl _ _).alloc (Nat.le_refl _) _
    have hT2 := hT.below b1
    have HB1 := Lib.hid b1
    clear hB ht
    by_cases hlim : lim < q
    ·have HRES : Hid (Lfc.Ord.cnts ts lim 1 = q) := Lib.hid (by rw [← HD.out, Lfc.Ord.cnts, if_pos hlim])
     have hd1 : decide (q > lim) = true := by simpa using hlim
     have hd2 : decide (lim < q) = true := by simpa using hlim
     go_wp2_with fail
     go_ret
     exact ⟨ret_int HRES.out.symm, hbw.trans (HB1.out.mono hbw.size)⟩
    ·have hd1 : decide (q > lim) = false := by simp; omega
     have hd2 : decide (lim < q) = false := by simp; omega
     obtain ⟨e1, e2, _, _⟩ := HSP.out k hlt (lim - q) (by omega)
     have HD2 : Hid (Lfc.Ord.cnts (ts.drop (k + 1)) lim (q + Lfc.Ord.cnt ts[k] (lim - q)) = Lfc.Ord.cnts ts lim 1) := Lib.hid (by rw [← HD.out, Lfc.Ord.cnts, if_neg hlim])
     have hw1 : IntKind.i64.wrap (lim - q) = lim - q := IntWalk.i64_in _ (by omega)
     have CALL := Lib.hid (IH.out ts[k] _ (lim - q) _ (by omega) (by omega) (by omega) hT2)
     have HST := Lib.hid hst
     generalize hZ : Lfc.Ord.cnt ts[k] (lim - q) = z at *
     generalize Lfc.Ord.sizes (ts.take k) = y at *
     clear hst hZ HD
     go_wp2_with fail
     refine CALL.out.mono ?_
     rintro e w1 ⟨rfl, hb1⟩
     have hq3 : q + z ≤ 1 + (Lfc.Ord.sizes (ts.take (k + 1)) : Int) := by have := HST.out; omega
     have hq4 := Lfc.Ord.sizes_take_le ts (k + 1)
     go_wp2_with fail
     go_roundw
     case rel => exact ⟨k + 1, q + z, by omega, by go_num, by go_num, by omega, hq3, HD2, hbw.trans ((HB1.out.trans (hb1.mono HB1.out.size)).mono hbw.size)⟩
     case measure => simp [intOf]; omega
   ·have HRES : Hid (Lfc.Ord.cnts ts lim 1 = q) := Lib.hid (by rw [← HC.out, List.drop_eq_nil_of_le (by omega)]; rfl)
    go_wp2_with fail
    go_ret
    exact ⟨ret_int HRES.out.symm, hbw⟩
theorem enters_oForm : ∀ args w, (callFunc 108 args).run Tryz.prog w = .ok (.enter 108 args) w := enters_of Tryz.func108 (by kernel_rfl) rfl
set_option maxRecDepth 100000 in
set_option maxHeartbeats 2000000 in
theorem oFormIndex_any (m : Nat) (ih : ∀ (o : Lfc.Ord) (v : Value) (w : World), o.size ≤ m → OrdV w o v → Calls Tryz.prog 108 #[v] w fun e w' => e = .returned (.bool (!(o).form)) ∧ Below w.heap.size w w')
  (ts : List Lfc.Ord) (A : Option Addr) (c : Nat) (w : World) (hm : Lfc.Ord.sizes ts ≤ m) (hmax : ts.length ≤ 1000000) (h : OrdsAt w A ts) :
  Calls Tryz.prog 109 #[.slice A ts.length c, .func (.func 108) #[] #[]] w fun e w' => ∃ i : Int, e = .returned (.int .i64 i) ∧ decide (i ≥ 0) = !Lfc.Ord.forms ts ∧ Below w.heap.size w w' := by
 have he := enters_oForm
 have IH := Lib.hid ih
 have HA := Lib.hid h
 have HS := Lib.hid (Lfc.forms_specO ts)
 have HF := Lib.hid (Lfc.forms_falseO ts)
 clear ih h
 generalize Lfc.Ord.forms ts = res at *
 go_enter Tryz.func109, Tryz.ntmps109
 go_wp2_with fail
 go_loopw [8] (fun i wr => ∃ k : Nat, k ≤ ts.length ∧ i = .int .i64 k ∧ Below w.heap.size w wr ∧ Hid (∀ j (h : j < ts.length), j < k → (ts[j]).form = true)) (fun i _ => ts.length - (intOf i).toNat)
 case atStart => exact ⟨0, by omega, rfl, Below.refl _ _, Lib.hid fun j _ hj => by omega⟩
 case round =>
  obtain ⟨k, hk, rfl, hbw, hp⟩ := hrel
  by_cases hlt : k < ts.length
  ·obtain ⟨b, o, k1, a1, xs, B1, c1, rfl, hb, ht, d0, d1, d2, hcu, hB, hT⟩ := (HA.out.below hbw).at_ hlt
   have hmem := Lfc.Ord.sizes_mem ts ts[k] (List.getElem_mem _)
   clear hB ht
   have hT2 := Lib.hid hT
   cases hq : (ts[k]).form
   ·have hres := HF.out k hlt hq
    subst hres
    have HQ := Lib.hid hq
    clear hq
    go_wp2_with fail
    refine (IH.out ts[k] _ _ (by omega) hT2.out).mono ?_
    rintro e w1 ⟨rfl, hb1⟩
    rw [HQ.out]
    go_wp2_with fail
    go_ret
    exact ⟨k, rfl, by simp, hbw.trans (hb1.mono hbw.size)⟩
   ·have HQ := Lib.hid hq
    clear hq
    go_wp2_with fail
    refine (IH.out ts[k] _ _ (by omega) hT2.out).mono ?_
    rintro e w1 ⟨rfl, hb1⟩
    rw [HQ.out]
    go_wp2_with fail
    go_roundw
    case rel =>
     refine ⟨k + 1, by omega, by go_num, hbw.trans (hb1.mono hbw.size), Lib.hid fun j h hj => ?_⟩
     rcases Nat.lt_or_ge j k with h1 | h1
     ·exact hp.out j h h1
     ·obtain rfl : j = k := by omega
      exact HQ.out
    case measure => simp [intOf]; omega
  ·have hres := HS.out.2 fun j h => hp.out j h (by omega)
   subst hres
   go_wp2_with fail
   go_ret
   exact ⟨-1, rfl, by decide, hbw⟩
set_option maxRecDepth 100000 in
set_option maxHeartbeats 2000000 in
theorem oFormContains_any (m : Nat) (ih : ∀ (o : Lfc.Ord) (v : Value) (w : World), o.size ≤ m → OrdV w o v → Calls Tryz.prog 108 #[v] w fun e w' => e = .returned (.bool (!(o).form)) ∧ Below w.heap.size w w')
  (ts : List Lfc.Ord) (A : Option Addr) (c : Nat) (w : World) (hm : Lfc.Ord.sizes ts ≤ m) (hmax : ts.length ≤ 1000000) (h : OrdsAt w A ts) :
  Calls Tryz.prog 87 #[.slice A ts.length c, .func (.func 108) #[] #[]] w fun e w' => e = .returned (.bool (!Lfc.Ord.forms ts)) ∧ Below w.heap.size w w' := by
 have IH := Lib.hid (oFormIndex_any m ih ts A c w hm hmax h)
 clear ih h
 go_enter Tryz.func87, Tryz.ntmps87
 go_wp2_with fail
 refine IH.out.mono ?_
 rintro e w1 ⟨i, rfl, hi, hb1⟩
 have HI := Lib.hid hi
 clear hi
 go_wp2_with fail
 go_ret
 exact ⟨ret_bool HI.out, hb1⟩
set_option maxRecDepth 100000 in
set_option maxHeartbeats 2000000 in
theorem oForm_upto (m : Nat) (hmm : m ≤ 1000000) : ∀ (o : Lfc.Ord) (v : Value) (w : World), o.size ≤ m → OrdV w o v →
  Calls Tryz.prog 85 #[v] w fun e w' => e = .returned (.bool o.form) ∧ Below w.heap.size w w' := by
 induction m with
 | zero => intro o v w h _; have := o.size_pos; omega
 | succ m ih0 =>
  intro o v w hsz hv
  have ih := ih0 (by omega)
  clear ih0
  have hn : ∀ (o : Lfc.Ord) (v : Value) (w : World), o.size ≤ m → OrdV w o v → Calls Tryz.prog 108 #[v] w fun e w' => e = .returned (.bool (!o.form)) ∧ Below w.heap.size w w' := by
   intro o v w hm hv
   obtain ⟨kd, ar, ts⟩ := o
   obtain ⟨A, c, rfl, hc, hA⟩ := hv.open_
   have b0 : Below w.heap.size w (w.alloc (.cells #[.int .i64 kd, .int .i64 ar, .slice A ts.length c] 26)) := (Below.refl _ _).alloc (Nat.le_refl _) _
   have IH := Lib.hid (ih _ _ _ hm (hv.below b0))
   clear ih hv hA
   generalize (Lfc.Ord.node kd ar ts).form = q at *
   go_enter Tryz.func108, Tryz.ntmps108
   go_wp2_with fail
   refine IH.out.mono ?_
   rintro e w1 ⟨rfl, hb1⟩
   cases q
   all_goals
    go_wp2_with fail
    go_ret
    exact ⟨rfl, b0.trans (hb1.mono b0.size)⟩
  obtain ⟨kd, ar, ts⟩ := o
  obtain ⟨A, c, rfl, hc, hA⟩ := hv.open_
  have hsz' := hsz
  simp only [Lfc.Ord.size] at hsz'
  have hlen := Lfc.Ord.sizes_len ts
  have hbx : Hid (Below w.heap.size w (w.alloc (.cells #[.int .i64 kd, .int .i64 ar, .slice A ts.length c] 26))) := Lib.hid ((Below.refl _ _).alloc (Nat.le_refl _) _)
  have HC := Lib.hid (oFormContains_any m hn ts A c _ (by omega) (by omega) (hA.below hbx.out))
  rw [Lfc.Ord.form]
  clear ih hn hA hv
  by_cases hk1 : kd = 1
  ·subst hk1
   rw [if_pos rfl]
   by_cases hl0 : ts.length = 0
   ·have hl1 : ((ts.length : Int) == 0) = true := by simp [hl0]
    have HD : Hid (decide (ts.length = 0) = true) := Lib.hid (decide_eq_true hl0)
    rw [HD.out]
    clear hl0
    go_enter Tryz.func85, Tryz.ntmps85
    go_wp2_with fail
    go_ret
    exact ⟨rfl, hbx.out⟩
   ·have hl1 : ((ts.length : Int) == 0) = false := by rw [beq_eq_false_iff_ne]; omega
    have HD : Hid (decide (ts.length = 0) = false) := Lib.hid (decide_eq_false hl0)
    rw [HD.out]
    clear hl0
    go_enter Tryz.func85, Tryz.ntmps85
    go_wp2_with fail
    go_ret
    exact ⟨rfl, hbx.out⟩
  ·have hk1f : (kd == 1) = false := by simpa using hk1
   rw [if_neg hk1]
   by_cases hk2 : kd = 2 ∨ kd = 3
   ·rw [if_pos hk2]
    clear hk1
    by_cases ha0 : ar = 0
    ·subst ha0
     rw [decide_eq_true rfl, Bool.true_and]
     by_cases hl0 : 0 < ts.length
     ·have hl1 : decide ((ts.length : Int) > 0) = true := by rw [decide_eq_true_eq]; omega
      have hl2 : decide ((0 : Int) < (ts.length : Int)) = true := by rw [decide_eq_true_eq]; omega
      have HD : Hid (decide (0 < ts.length) = true) := Lib.hid (decide_eq_true hl0)
      rw [HD.out, Bool.true_and]
      generalize Lfc.Ord.forms ts = q at *
      rcases hk2 with rfl | rfl
      all_goals
       go_enter Tryz.func85, Tryz.ntmps85
       go_wp2_with fail
       refine HC.out.mono ?_
       rintro e w1 ⟨rfl, hb1⟩
       cases q
       all_goals
        go_wp2_with fail
        go_ret
        exact ⟨rfl, hbx.out.trans (hb1.mono hbx.out.size)⟩
     ·have hl1 : decide ((ts.length : Int) > 0) = false := by rw [decide_eq_false_iff_not]; omega
      have hl2 : decide ((0 : Int) < (ts.length : Int)) = false := by rw [decide_eq_false_iff_not]; omega
      have HD : Hid (decide (0 < ts.length) = false) := Lib.hid (decide_eq_false hl0)
      rw [HD.out]
      rcases hk2 with rfl | rfl
      all_goals
       go_enter Tryz.func85, Tryz.ntmps85
       go_wp2_with fail
       go_ret
       exact ⟨rfl, hbx.out⟩
    ·have ha1 : (ar == 0) = false := by simpa using ha0
     have HD : Hid (decide (ar = 0) = false) := Lib.hid (decide_eq_false ha0)
     rw [HD.out]
     rcases hk2 with rfl | rfl
     all_goals
      go_enter Tryz.func85, Tryz.ntmps85
      go_wp2_with fail
      go_ret
      exact ⟨by simp, hbx.out⟩
   ·rw [if_neg hk2]
    have hk2f : (kd == 2) = false := by simp; omega
    have hk3f : (kd == 3) = false := by simp; omega
    go_enter Tryz.func85, Tryz.ntmps85
    go_wp2_with fail
    go_ret
    exact ⟨rfl, hbx.out⟩
set_option maxRecDepth 100000 in
set_option maxHeartbeats 2000000 in
theorem oSmall_any (o : Lfc.Ord) (v : Value) (w : World) (hsz : o.size ≤ 1000000) (hv : OrdV w o v) :
  Calls Tryz.prog 54 #[v] w fun e w' => e = .returned (.bool (decide (o.size ≤ 64) && o.form)) ∧ Below w.heap.size w w' := by
 obtain ⟨k1, k2, k3, k4⟩ := Lfc.cnt_spec _ o 64 (Nat.le_refl _) (by omega)
 have HT : Hid (decide (o.cnt 64 ≤ 64) = decide (o.size ≤ 64)) := Lib.hid (by
  rw [decide_eq_decide]
  constructor
  ·intro h
   rcases Int.lt_or_le 64 (o.size : Int) with h1 | h1
   ·have := k4 h1; omega
   ·omega
  ·intro h
   rw [k3 (by omega)]; omega)
 obtain ⟨A, c, kd, ar, ts, hT, rfl, hc, hA⟩ : ∃ A c kd ar ts, o = .node kd ar ts ∧ v = .agg #[.int .i64 kd, .int .i64 ar, .slice A ts.length c] ∧ ts.length ≤ c ∧ OrdsAt w A ts := by
  obtain ⟨kd, ar, ts⟩ := o
  obtain ⟨A, c, rfl, hc, hA⟩ := hv.open_
  exact ⟨A, c, kd, ar, ts, rfl, rfl, hc, hA⟩
 obtain ⟨w1, hw1⟩ : ∃ w1, w.alloc (.cells #[.int .i64 kd, .int .i64 ar, .slice A ts.length c] 26) = w1 := ⟨_, rfl⟩
 have b01 : Below w.heap.size w w1 := by rw [← hw1]; exact (Below.refl _ _).alloc (Nat.le_refl _) _
 have q1 : w1.heap[w.heap.size]? = some (.cells #[.int .i64 kd, .int .i64 ar, .slice A ts.length c] 26 (0, 0)) := by rw [← hw1]; exact heap_alloc_new _ _
 obtain ⟨y0, y1, y2⟩ := cells3o q1
 have C1 := Lib.hid (oCount_any _ hsz o _ 64 w1 (Nat.le_refl _) (by omega) (by omega) (hv.below b01))
 have C2 := Lib.hid (fun W (hW : Below w1.heap.size w1 W) => oForm_upto _ hsz o _ W (Nat.le_refl _) ((hv.below b01).below hW))
 have HQ := Lib.hid q1
 rw [← HT.out]
 clear hT hA hv k2 k3 k4 q1 HT
 generalize o.cnt 64 = z at *
 generalize o.form = f at *
 go_enter Tryz.func54, Tryz.ntmps54
 go_wp2_with fail
 refine C1.out.mono ?_
 rintro e w2 ⟨rfl, hb2⟩
 obtain ⟨x0, x1, x2⟩ := cells3o ((hb2.block _ (lt_of_block HQ.out)).trans HQ.out)
 cases hz : decide (z ≤ 64)
 ·go_wp2_with fail
  go_ret
  exact ⟨ret_bool (by simp [hz]), b01.trans (hb2.mono b01.size)⟩
 ·go_wp2_with fail
  refine (C2.out _ hb2).mono ?_
  rintro e w3 ⟨rfl, hb3⟩
  cases f
  all_goals
   go_wp2_with fail
   go_ret
   exact ⟨ret_bool (by simp [hz]), b01.trans ((hb2.trans (hb3.mono hb2.size)).mono b01.size)⟩
def LH (F1 F2 : Nat) (lo hi : Int) (w : World) : Prop := (F1 < w.heap.size ∧ w.cell? ⟨F1, 0, none⟩ = some (.int .i64 lo)) ∧ (F2 < w.heap.size ∧ w.cell? ⟨F2, 0, none⟩ = some (.int .i64 hi))
theorem LH.below {F1 F2 : Nat} {lo hi : Int} {w w' : World} (h : LH F1 F2 lo hi w) (hb : Below w.heap.size w w') : LH F1 F2 lo hi w' :=
 ⟨⟨Nat.lt_of_lt_of_le h.1.1 hb.size, (hb.cell (p := ⟨F1, 0, none⟩) h.1.1).trans h.1.2⟩, ⟨Nat.lt_of_lt_of_le h.2.1 hb.size, (hb.cell (p := ⟨F2, 0, none⟩) h.2.1).trans h.2.2⟩⟩
theorem enters_oArgs : ∀ args w, (callFunc 88 args).run Tryz.prog w = .ok (.enter 88 args) w := enters_of Tryz.func88 (by kernel_rfl) rfl
set_option maxRecDepth 100000 in
set_option maxHeartbeats 2000000 in
theorem oArgsIndex_any (F1 F2 : Nat) (lo hi : Int) (m : Nat) (ih : ∀ (o : Lfc.Ord) (v : Value) (w : World) (hF : LH F1 F2 lo hi w), o.size ≤ m → OrdV w o v → Calls Tryz.prog 88 #[v, .pointer (some ⟨F1, 0, none⟩), .pointer (some ⟨F2, 0, none⟩)] w fun e w' => e = .returned (.bool (!(o).rng lo hi)) ∧ Below w.heap.size w w')
  (ts : List Lfc.Ord) (A : Option Addr) (c : Nat) (w : World) (hF : LH F1 F2 lo hi w) (hm : Lfc.Ord.sizes ts ≤ m) (hmax : ts.length ≤ 1000000) (h : OrdsAt w A ts) :
  Calls Tryz.prog 109 #[.slice A ts.length c, .func (.func 88) #[] #[.pointer (some ⟨F1, 0, none⟩), .pointer (some ⟨F2, 0, none⟩)]] w fun e w' => ∃ i : Int, e = .returned (.int .i64 i) ∧ decide (i ≥ 0) = !Lfc.Ord.rngs lo hi ts ∧ Below w.heap.size w w' := by
 have he := enters_oArgs
 have IH := Lib.hid ih
 have HA := Lib.hid h
 have HS := Lib.hid (Lfc.rngs_spec lo hi ts)
 have HF := Lib.hid (Lfc.rngs_false lo hi ts)
 have HLH := Lib.hid hF
 clear hF
 clear ih h
 generalize Lfc.Ord.rngs lo hi ts = res at *
 go_enter Tryz.func109, Tryz.ntmps109
 go_wp2_with fail
 go_loopw [8] (fun i wr => ∃ k : Nat, k ≤ ts.length ∧ i = .int .i64 k ∧ Below w.heap.size w wr ∧ Hid (∀ j (h : j < ts.length), j < k → (ts[j]).rng lo hi = true)) (fun i _ => ts.length - (intOf i).toNat)
 case atStart => exact ⟨0, by omega, rfl, Below.refl _ _, Lib.hid fun j _ hj => by omega⟩
 case round =>
  obtain ⟨k, hk, rfl, hbw, hp⟩ := hrel
  by_cases hlt : k < ts.length
  ·obtain ⟨b, o, k1, a1, xs, B1, c1, rfl, hb, ht, d0, d1, d2, hcu, hB, hT⟩ := (HA.out.below hbw).at_ hlt
   have hmem := Lfc.Ord.sizes_mem ts ts[k] (List.getElem_mem _)
   clear hB ht
   have hT2 := Lib.hid hT
   cases hq : (ts[k]).rng lo hi
   ·have hres := HF.out k hlt hq
    subst hres
    have HQ := Lib.hid hq
    clear hq
    go_wp2_with fail
    refine (IH.out ts[k] _ _ (HLH.out.below hbw) (by omega) hT2.out).mono ?_
    rintro e w1 ⟨rfl, hb1⟩
    rw [HQ.out]
    go_wp2_with fail
    go_ret
    exact ⟨k, rfl, by simp, hbw.trans (hb1.mono hbw.size)⟩
   ·have HQ := Lib.hid hq
    clear hq
    go_wp2_with fail
    refine (IH.out ts[k] _ _ (HLH.out.below hbw) (by omega) hT2.out).mono ?_
    rintro e w1 ⟨rfl, hb1⟩
    rw [HQ.out]
    go_wp2_with fail
    go_roundw
    case rel =>
     refine ⟨k + 1, by omega, by go_num, hbw.trans (hb1.mono hbw.size), Lib.hid fun j h hj => ?_⟩
     rcases Nat.lt_or_ge j k with h1 | h1
     ·exact hp.out j h h1
     ·obtain rfl : j = k := by omega
      exact HQ.out
    case measure => simp [intOf]; omega
  ·have hres := HS.out.2 fun j h => hp.out j h (by omega)
   subst hres
   go_wp2_with fail
   go_ret
   exact ⟨-1, rfl, by decide, hbw⟩
set_option maxRecDepth 100000 in
set_option maxHeartbeats 2000000 in
theorem oArgsContains_any (F1 F2 : Nat) (lo hi : Int) (m : Nat) (ih : ∀ (o : Lfc.Ord) (v : Value) (w : World) (hF : LH F1 F2 lo hi w), o.size ≤ m → OrdV w o v → Calls Tryz.prog 88 #[v, .pointer (some ⟨F1, 0, none⟩), .pointer (some ⟨F2, 0, none⟩)] w fun e w' => e = .returned (.bool (!(o).rng lo hi)) ∧ Below w.heap.size w w')
  (ts : List Lfc.Ord) (A : Option Addr) (c : Nat) (w : World) (hF : LH F1 F2 lo hi w) (hm : Lfc.Ord.sizes ts ≤ m) (hmax : ts.length ≤ 1000000) (h : OrdsAt w A ts) :
  Calls Tryz.prog 87 #[.slice A ts.length c, .func (.func 88) #[] #[.pointer (some ⟨F1, 0, none⟩), .pointer (some ⟨F2, 0, none⟩)]] w fun e w' => e = .returned (.bool (!Lfc.Ord.rngs lo hi ts)) ∧ Below w.heap.size w w' := by
 have IH := Lib.hid (oArgsIndex_any F1 F2 lo hi m ih ts A c w hF hm hmax h)
 clear ih h
 go_enter Tryz.func87, Tryz.ntmps87
 go_wp2_with fail
 refine IH.out.mono ?_
 rintro e w1 ⟨i, rfl, hi, hb1⟩
 have HI := Lib.hid hi
 clear hi
 go_wp2_with fail
 go_ret
 exact ⟨ret_bool HI.out, hb1⟩
set_option maxRecDepth 100000 in
set_option maxHeartbeats 2000000 in
theorem oArgs_upto (lo hi : Int) (m : Nat) (hmm : m ≤ 1000000) : ∀ (o : Lfc.Ord) (v : Value) (w : World), o.size ≤ m → OrdV w o v →
  Calls Tryz.prog 56 #[v, .int .i64 lo, .int .i64 hi] w fun e w' => e = .returned (.bool (o.rng lo hi)) ∧ Below w.heap.size w w' := by
 induction m with
 | zero => intro o v w h _; have := o.size_pos; omega
 | succ m ih0 =>
  intro o v w hsz hv
  have ih := ih0 (by omega)
  clear ih0
  have hn : ∀ (F1 F2 : Nat) (o : Lfc.Ord) (v : Value) (w : World) (hF : LH F1 F2 lo hi w), o.size ≤ m → OrdV w o v → Calls Tryz.prog 88 #[v, .pointer (some ⟨F1, 0, none⟩), .pointer (some ⟨F2, 0, none⟩)] w fun e w' => e = .returned (.bool (!o.rng lo hi)) ∧ Below w.heap.size w w' := by
   intro F1 F2 o v w hF hm hv
   obtain ⟨kd, ar, ts⟩ := o
   obtain ⟨A, c, rfl, hc, hA⟩ := hv.open_
   have b0 : Below w.heap.size w (w.alloc (.cells #[.int .i64 kd, .int .i64 ar, .slice A ts.length c] 26)) := (Below.refl _ _).alloc (Nat.le_refl _) _
   have IH := Lib.hid (ih _ _ _ hm (hv.below b0))
   have x1 := (hF.below b0).1.2
   have x2 := (hF.below b0).2.2
   clear ih hv hA hF
   generalize (Lfc.Ord.node kd ar ts).rng lo hi = q at *
   go_enter Tryz.func88, Tryz.ntmps88
   go_wp2_with fail
   refine IH.out.mono ?_
   rintro e w1 ⟨rfl, hb1⟩
   cases q
   all_goals
    go_wp2_with fail
    go_ret
    exact ⟨rfl, b0.trans (hb1.mono b0.size)⟩
  obtain ⟨kd, ar, ts⟩ := o
  obtain ⟨A, c, rfl, hc, hA⟩ := hv.open_
  have hsz' := hsz
  simp only [Lfc.Ord.size] at hsz'
  have hlen := Lfc.Ord.sizes_len ts
  obtain ⟨wc, hwc⟩ : ∃ wc, ((w.alloc (.cells #[.int .i64 kd, .int .i64 ar, .slice A ts.length c] 26)).alloc (.cells #[.int .i64 lo] 3)).alloc (.cells #[.int .i64 hi] 3) = wc := ⟨_, rfl⟩
  have bc : Below w.heap.size w wc := by rw [← hwc]; exact (((Below.refl _ _).alloc (Nat.le_refl _) _).alloc (by simp) _).alloc (by simp <;> omega) _
  have hLH : LH (w.heap.size + 1) (w.heap.size + 2) lo hi wc := by
   rw [← hwc]
   refine ⟨⟨by simp, ?_⟩, ⟨by simp, ?_⟩⟩
   ·have h := heap_alloc_new (w.alloc (.cells #[.int .i64 kd, .int .i64 ar, .slice A ts.length c] 26)) (.cells #[.int .i64 lo] 3)
    rw [World.size_alloc] at h
    exact Lib.cell_of_heap ((Lib.alloc_old _ _ _ (by simp)).trans h) 0
   ·have h := heap_alloc_new ((w.alloc (.cells #[.int .i64 kd, .int .i64 ar, .slice A ts.length c] 26)).alloc (.cells #[.int .i64 lo] 3)) (.cells #[.int .i64 hi] 3)
    rw [World.size_alloc, World.size_alloc] at h
    exact Lib.cell_of_heap h 0
  have hbx : wc.heap[w.heap.size]? = some (.cells #[.int .i64 kd, .int .i64 ar, .slice A ts.length c] 26 (0, 0)) := by
   rw [← hwc]
   exact (Lib.alloc_old _ _ _ (by simp <;> omega)).trans ((Lib.alloc_old _ _ _ (by simp)).trans (heap_alloc_new w _))
  obtain ⟨y0, y1, y2⟩ := cells3o hbx
  have z1 := hLH.1.2
  have z2 := hLH.2.2
  have HC := Lib.hid (oArgsContains_any (w.heap.size + 1) (w.heap.size + 2) lo hi m (hn _ _) ts A c wc hLH (by omega) (by omega) (hA.below bc))
  have HB := Lib.hid bc
  have HWC := Lib.hid hwc
  rw [Lfc.Ord.rng]
  clear ih hn hA hv bc hLH hbx hwc
  by_cases hk1 : kd = 1
  ·subst hk1
   rw [if_pos rfl]
   go_enter Tryz.func56, Tryz.ntmps56
   go_upto_region 1 with fail
   rw [HWC.out]
   cases h1 : decide (lo ≤ ar)
   ·have h1' : decide (ar ≥ lo) = false := h1
    go_wp2_with fail
    go_ret
    exact ⟨ret_bool (by rw [h1]; rfl), HB.out⟩
   ·have h1' : decide (ar ≥ lo) = true := h1
    cases h2 : decide (ar ≤ hi)
    all_goals
     go_wp2_with fail
     go_ret
     exact ⟨ret_bool (by rw [h1, h2]; rfl), HB.out⟩
  ·have hk1f : (kd == 1) = false := by simpa using hk1
   rw [if_neg hk1]
   generalize Lfc.Ord.rngs lo hi ts = q at *
   go_enter Tryz.func56, Tryz.ntmps56
   go_upto_region 1 with fail
   rw [HWC.out]
   go_wp2_with fail
   refine HC.out.mono ?_
   rintro e w1 ⟨rfl, hb1⟩
   cases q
   all_goals
    go_wp2_with fail
    go_ret
    exact ⟨rfl, HB.out.trans (hb1.mono HB.out.size)⟩
end Go.Proofs.YtadjpadieljjlaaGreat
namespace Go.Proofs.YtadjpadieljjlaaGreat
open Go.RowKit
theorem enters_shape : ∀ args w, (callFunc 34 args).run Tryz.prog w = .ok (.enter 34 args) w := enters_of Tryz.func34 (by kernel_rfl) rfl
def ShpUpto (m : Nat) : Prop := ∀ (t u : Lfc.Ord) (v v' : Value) (w : World), t.size ≤ m → OrdV w t v → OrdV w u v' →
  Calls Tryz.prog 34 #[v, v'] w fun e w' => e = .returned (.bool (Lfc.Ord.shp t u)) ∧ Below w.heap.size w w'
set_option maxRecDepth 100000 in
set_option maxHeartbeats 2000000 in
theorem oEqual_any (m : Nat) (ih : ShpUpto m) (ts us : List Lfc.Ord) (A A' : Option Addr) (c c' : Nat) (w : World) (hm : Lfc.Ord.sizes ts ≤ m) (hmax : ts.length ≤ 1000000) (h : OrdsAt w A ts) (h' : OrdsAt w A' us) :
  Calls Tryz.prog 58 #[.slice A ts.length c, .slice A' us.length c', .func (.func 34) #[] #[]] w fun e w' => e = .returned (.bool (Lfc.Ord.shps ts us)) ∧ Below w.heap.size w w' := by
 have he := enters_shape
 have IH := Lib.hid ih
 have HA := Lib.hid h
 have HA' := Lib.hid h'
 clear ih h h'
 by_cases hl : ts.length = us.length
 ·have HS := Lib.hid (Lfc.shps_spec ts us)
  have HF := Lib.hid (Lfc.shps_false ts us)
  have HL := Lib.hid hl
  generalize Lfc.Ord.shps ts us = res at *
  rw [← hl]
  clear hl
  go_enter Tryz.func58, Tryz.ntmps58
  go_wp2_with fail
  go_loopw [17] (fun i wr => ∃ k : Nat, k ≤ ts.length ∧ i = .int .i64 k ∧ Below w.heap.size w wr ∧ Hid (∀ j (h : j < ts.length) (h' : j < us.length), j < k → Lfc.Ord.shp ts[j] us[j] = true)) (fun i _ => ts.length - (intOf i).toNat)
  case atStart => exact ⟨0, by omega, rfl, Below.refl _ _, Lib.hid fun j _ _ hj => by omega⟩
  case round =>
   obtain ⟨k, hk, rfl, hbw, hp⟩ := hrel
   by_cases hlt : k < ts.length
   ·have hlt' : k < us.length := by have := HL.out; omega
    obtain ⟨b, o, k1, n1, xs, B, c1, rfl, hb, ht, d0, d1, d2, hcu, hB, hT⟩ := (HA.out.below hbw).at_ hlt
    obtain ⟨b', o', k2, n2, ys, B', c2, rfl, hb', ht', e0, e1, e2, hcu', hB', hT'⟩ := (HA'.out.below hbw).at_ hlt'
    have hmem := Lfc.Ord.sizes_mem ts ts[k] (List.getElem_mem _)
    clear hB hB' ht ht'
    have b1 : Below wr.heap.size wr ((wr.alloc (.cells #[.int .i64 k1, .int .i64 n1, .slice B xs.length c1] 26)).alloc (.cells #[.int .i64 k2, .int .i64 n2, .slice B' ys.length c2] 26)) := ((Below.refl _ _).alloc (Nat.le_refl _) _).alloc (by simp) _
    have hT2 := hT.below b1
    have hT2' := hT'.below b1
    cases hq : Lfc.Ord.shp ts[k] us[k]
    ·have hres := HF.out k hlt hlt' hq
     subst hres
     have HQ := Lib.hid hq
     clear hq
     go_wp2_with fail
     refine (IH.out ts[k] us[k] _ _ _ (by omega) hT2 hT2').mono ?_
     rintro e w1 ⟨rfl, hb1⟩
     rw [HQ.out]
     go_wp2_with fail
     go_ret
     exact ⟨rfl, hbw.trans ((b1.mono hbw.size).trans (hb1.mono (Nat.le_trans hbw.size b1.size)))⟩
    ·have HQ := Lib.hid hq
     clear hq
     go_wp2_with fail
     refine (IH.out ts[k] us[k] _ _ _ (by omega) hT2 hT2').mono ?_
     rintro e w1 ⟨rfl, hb1⟩
     rw [HQ.out]
     go_wp2_with fail
     go_roundw
     case rel =>
      refine ⟨k + 1, by omega, by go_num, hbw.trans ((b1.mono hbw.size).trans (hb1.mono (Nat.le_trans hbw.size b1.size))), Lib.hid fun j h h' hj => ?_⟩
      rcases Nat.lt_or_ge j k with h1 | h1
      ·exact hp.out j h h' h1
      ·obtain rfl : j = k := by omega
       exact HQ.out
     case measure => simp [intOf]; omega
   ·have hres := HS.out.2 ⟨HL.out, fun j h h' => hp.out j h h' (by omega)⟩
    subst hres
    go_wp2_with fail
    go_ret
    exact ⟨rfl, hbw⟩
 ·rw [Lfc.shps_len ts us hl]
  have hne : ((ts.length : Int) != (us.length : Int)) = true := by simp; omega
  clear hl
  go_enter Tryz.func58, Tryz.ntmps58
  go_wp2_with fail
  go_ret
  exact ⟨rfl, Below.refl _ _⟩
set_option maxRecDepth 100000 in
set_option maxHeartbeats 2000000 in
theorem oShape_upto (m : Nat) (hmm : m ≤ 1000000) : ∀ (t u : Lfc.Ord) (v v' : Value) (w : World), t.size ≤ m → OrdV w t v → OrdV w u v' →
  Calls Tryz.prog 34 #[v, v'] w fun e w' => e = .returned (.bool (Lfc.Ord.shp t u)) ∧ Below w.heap.size w w' := by
 induction m with
 | zero => intro t u v v' w h _ _; have := t.size_pos; omega
 | succ m ih0 =>
  intro t u v v' w hsz hv hv'
  have ih := ih0 (by omega)
  clear ih0
  obtain ⟨kd, ar, ts⟩ := t
  obtain ⟨kd', ar', us⟩ := u
  obtain ⟨A, c, rfl, hc, hA⟩ := hv.open_
  obtain ⟨A', c', rfl, hc', hA'⟩ := hv'.open_
  simp only [Lfc.Ord.size] at hsz
  have hlen := Lfc.Ord.sizes_len ts
  have hlen' := Lfc.Ord.sizes_len us
  obtain ⟨wa, hwa⟩ : ∃ wa, w.alloc (.cells #[.int .i64 kd, .int .i64 ar, .slice A ts.length c] 26) = wa := ⟨_, rfl⟩
  obtain ⟨wb, hwb⟩ : ∃ wb, wa.alloc (.cells #[.int .i64 kd', .int .i64 ar', .slice A' us.length c'] 26) = wb := ⟨_, rfl⟩
  have ba : Below w.heap.size w wa := by rw [← hwa]; exact (Below.refl _ _).alloc (Nat.le_refl _) _
  have bab : Below wa.heap.size wa wb := by rw [← hwb]; exact (Below.refl _ _).alloc (Nat.le_refl _) _
  have qa : wa.heap[w.heap.size]? = some (.cells #[.int .i64 kd, .int .i64 ar, .slice A ts.length c] 26 (0, 0)) := by rw [← hwa]; exact heap_alloc_new _ _
  have qb : wb.heap[wa.heap.size]? = some (.cells #[.int .i64 kd', .int .i64 ar', .slice A' us.length c'] 26 (0, 0)) := by rw [← hwb]; exact heap_alloc_new _ _
  have sa := lt_of_block qa
  have sb := lt_of_block qb
  have qab := (bab.block _ sa).trans qa
  have bb : Below w.heap.size w wb := ba.trans (bab.mono (by omega))
  have HA := Lib.hid (hA.below bb)
  have HA' := Lib.hid (hA'.below bb)
  have QA := Lib.hid qab
  have QB := Lib.hid qb
  have HB := Lib.hid bb
  have IH := Lib.hid ih
  obtain ⟨y0, y1, y2⟩ := cells3o qab
  obtain ⟨z0, z1, z2⟩ := cells3o qb
  clear ih hv hv' hA hA' ba bab qa qb qab bb
  rw [Lfc.Ord.shp]
  have HE := Lib.hid (oEqual_any m IH.out ts us A A' c c' wb (by omega) (by omega) HA.out HA'.out)
  by_cases hk : kd = kd'
  ·rw [decide_eq_true hk, Bool.true_and]
   have hk2 : (kd == kd') = true := by simpa using hk
   subst hk
   generalize Lfc.Ord.shps ts us = q at *
   go_enter Tryz.func34, Tryz.ntmps34
   go_wp2_with fail
   refine HE.out.mono ?_
   rintro e w1 ⟨rfl, hb1⟩
   cases q
   all_goals
    go_wp2_with fail
    go_ret
    exact ⟨rfl, HB.out.trans (hb1.mono HB.out.size)⟩
  ·have hk2 : (kd == kd') = false := by simpa using hk
   have HD : Hid (decide (kd = kd') = false) := Lib.hid (decide_eq_false hk)
   rw [HD.out]
   go_enter Tryz.func34, Tryz.ntmps34
   go_wp2_with fail
   go_ret
   exact ⟨by simp, HB.out⟩
end Go.Proofs.YtadjpadieljjlaaGreat
namespace Go.Proofs.YtadjpadieljjlaaGreat
open Go.RowKit
set_option maxRecDepth 100000 in
set_option maxHeartbeats 2000000 in
theorem oValid_any (o : Lfc.Ord) (v : Value) (n : Int) (w : World) (hsz : o.size ≤ 1000000) (hn0 : -1000 ≤ n) (hn1 : n ≤ 1000) (hv : OrdV w o v) :
  Calls Tryz.prog 33 #[v, .int .i64 n] w fun e w' => e = .returned (.int .i64 (o.vld n)) ∧ Below w.heap.size w w' := by
 obtain ⟨A, c, kd, ar, ts, hT, rfl, hc, hA⟩ : ∃ A c kd ar ts, o = .node kd ar ts ∧ v = .agg #[.int .i64 kd, .int .i64 ar, .slice A ts.length c] ∧ ts.length ≤ c ∧ OrdsAt w A ts := by
  obtain ⟨kd, ar, ts⟩ := o
  obtain ⟨A, c, rfl, hc, hA⟩ := hv.open_
  exact ⟨A, c, kd, ar, ts, rfl, rfl, hc, hA⟩
 obtain ⟨w1, hw1⟩ : ∃ w1, w.alloc (.cells #[.int .i64 kd, .int .i64 ar, .slice A ts.length c] 26) = w1 := ⟨_, rfl⟩
 have b01 : Below w.heap.size w w1 := by rw [← hw1]; exact (Below.refl _ _).alloc (Nat.le_refl _) _
 have q1 : w1.heap[w.heap.size]? = some (.cells #[.int .i64 kd, .int .i64 ar, .slice A ts.length c] 26 (0, 0)) := by rw [← hw1]; exact heap_alloc_new _ _
 obtain ⟨y0, y1, y2⟩ := cells3o q1
 have C1 := Lib.hid (oSmall_any o _ w1 hsz (hv.below b01))
 have C2 := Lib.hid (fun W (hW : Below w1.heap.size w1 W) => oArgs_upto 0 (n - 1) _ hsz o _ W (Nat.le_refl _) ((hv.below b01).below hW))
 have HQ := Lib.hid q1
 have HR : Hid (o.vld n = if 64 < o.size ∨ o.form = false then 92 else if o.rng 0 (n - 1) = false then 5 else 0) := Lib.hid rfl
 have hw2 : IntKind.i64.wrap (n - 1) = n - 1 := IntWalk.i64_in _ (by omega)
 have s01 := b01.size
 rw [HR.out]
 have HSM : Hid ((64 < o.size ∨ o.form = false) ↔ (decide (o.size ≤ 64) && o.form) = false) := Lib.hid (by
  rw [Bool.and_eq_false_iff, decide_eq_false_iff_not]
  constructor
  ·rintro (h | h)
   ·exact .inl (by omega)
   ·exact .inr h
  ·rintro (h | h)
   ·exact .inl (by omega)
   ·exact .inr h)
 clear hT hA hv q1 HR
 generalize (decide (o.size ≤ 64) && o.form) = f at *
 cases f
 ·have HS2 := Lib.hid (HSM.out.2 rfl)
  rw [if_pos HS2.out]
  clear HSM
  go_enter Tryz.func33, Tryz.ntmps33
  go_wp2_with fail
  refine C1.out.mono ?_
  rintro e w2 ⟨rfl, hb2⟩
  go_wp2_with fail
  go_ret
  exact ⟨rfl, b01.trans (hb2.mono s01)⟩
 ·have HS2 : Hid (¬ (64 < o.size ∨ o.form = false)) := Lib.hid (fun h => by have := HSM.out.1 h; cases this)
  rw [if_neg HS2.out]
  clear HSM
  generalize o.rng 0 (n - 1) = r at *
  go_enter Tryz.func33, Tryz.ntmps33
  go_wp2_with fail
  refine C1.out.mono ?_
  rintro e w2 ⟨rfl, hb2⟩
  obtain ⟨x0, x1, x2⟩ := cells3o ((hb2.block _ (lt_of_block HQ.out)).trans HQ.out)
  go_wp2_with fail
  refine (C2.out _ hb2).mono ?_
  rintro e w3 ⟨rfl, hb3⟩
  cases r
  all_goals
   go_wp2_with fail
   go_ret
   exact ⟨by simp, b01.trans ((hb2.trans (hb3.mono hb2.size)).mono s01)⟩
end Go.Proofs.YtadjpadieljjlaaGreat
