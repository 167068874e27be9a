/- The contract of copied at a proof without parts. -/
import Derived.Test.YtadjpadieljjlaaOrLinks2
set_option linter.unusedVariables false
set_option linter.unusedSimpArgs false
namespace Go.Proofs.Ytadjpadieljjlaa
open Go.RowKit Go.Maps
/-- What stands behind the first region: the copy r in block B. -/
def CpI (w2 : World) (B : Nat) (ix : Int) (l m : List Lfc.Link) (A5 A6 : Option Addr) (N M c5 c6 : Nat) (W : World) : Prop :=
  Below w2.heap.size w2 W ∧ w2.heap.size ≤ B ∧ W.heap[B]? = some (.cells #[.int .i64 ix, .slice none 0 0, .slice A5 N c5, .slice A6 M c6] 58 (0, 0)) ∧ (LinksP (fun b => w2.heap.size ≤ b) W A5 l ∧ N ≤ c5) ∧ (LinksP (fun b => w2.heap.size ≤ b) W A6 m ∧ M ≤ c6)
theorem cpi_mid {w2 w5 w6 s4 : World} {ix : Int} {l m : List Lfc.Link} {A5 A6 : Option Addr} {N M c5 c6 : Nat} {o : Obj} (h5 : LinksP (fun b => w2.heap.size ≤ b) w5 A5 l) (hc5 : N ≤ c5) (h6 : LinksP (fun b => (w5.alloc o).heap.size ≤ b) w6 A6 m) (hc6 : M ≤ c6) (hs : w2.heap.size ≤ w5.heap.size) (hb6 : Below (w5.alloc o).heap.size (w5.alloc o) w6)
    (hq : s4.heap[w5.heap.size]? = some (.cells #[.int .i64 ix, .slice none 0 0, .slice A5 N c5, .slice A6 M c6] 58 (0, 0))) (ho : Oth w5.heap.size w6 s4) (hs4 : Below w2.heap.size w2 s4) : CpI w2 w5.heap.size ix l m A5 A6 N M c5 c6 s4 := by
  have e : (w5.alloc o).heap.size = w5.heap.size + 1 := by simp
  have hs6 := hb6.size
  refine ⟨hs4, hs, hq, ⟨h5.keep (fun b _ hlt => ?_) (Nat.le_trans (by omega) ho.size) (fun _ _ h => h), hc5⟩, ⟨h6.keep (fun b hb hlt => ?_) ho.size (fun b _ hb => ?_), hc6⟩⟩
  · exact (ho.block b (by omega) (fun e => by have e := Option.some.inj e; omega)).trans ((hb6.block b (by omega)).trans (Lib.alloc_old _ _ _ hlt))
  · have hb : (w5.alloc o).heap.size ≤ b := hb
    exact ho.block b hlt (fun e => by have e := Option.some.inj e; omega)
  · have hb : (w5.alloc o).heap.size ≤ b := hb
    show w2.heap.size ≤ b
    omega
theorem cpi_first {w2 w5 w6 s4 : World} {ix : Int} {l m : List Lfc.Link} {A5 A6 : Option Addr} {N M c5 c6 : Nat} (h5 : LinksP (fun b => w2.heap.size < b) w5 A5 l) (hc5 : N ≤ c5) (h6 : LinksP (fun b => w5.heap.size ≤ b) w6 A6 m) (hc6 : M ≤ c6) (hs : w2.heap.size < w5.heap.size) (hb6 : Below w5.heap.size w5 w6)
    (hq : s4.heap[w2.heap.size]? = some (.cells #[.int .i64 ix, .slice none 0 0, .slice A5 N c5, .slice A6 M c6] 58 (0, 0))) (ho : Oth w2.heap.size w6 s4) (hs4 : Below w2.heap.size w2 s4) : CpI w2 w2.heap.size ix l m A5 A6 N M c5 c6 s4 := by
  have hs6 := hb6.size
  refine ⟨hs4, Nat.le_refl _, hq, ⟨h5.keep (fun b hb hlt => ?_) (Nat.le_trans hs6 ho.size) (fun b _ hb => Nat.le_of_lt hb), hc5⟩, ⟨h6.keep (fun b hb hlt => ?_) ho.size (fun b _ hb => ?_), hc6⟩⟩
  · have hb : w2.heap.size < b := hb
    exact (ho.block b (by omega) (fun e => by have e := Option.some.inj e; omega)).trans (hb6.block b hlt)
  · have hb : w5.heap.size ≤ b := hb
    exact ho.block b hlt (fun e => by have e := Option.some.inj e; omega)
  · have hb : w5.heap.size ≤ b := hb
    show w2.heap.size ≤ b
    omega
set_option maxRecDepth 100000 in
set_option maxHeartbeats 8000000 in
theorem oCopied0_any (q q' : Nat → Prop) (ix : Int) (l m : List Lfc.Link) (A B : Option Addr) (c d : Nat) (w : World) (hn : l.length ≤ 100000) (hm : m.length ≤ 100000) (hst : ∀ x ∈ l, x.term.size ≤ 1000000 ∧ x.path.length ≤ 10000000) (hmt : ∀ x ∈ m, x.term.size ≤ 1000000 ∧ x.path.length ≤ 10000000) (hl : LinksP q w A l) (hl' : LinksP q' w B m) :
    Calls Try.prog 42 #[.agg #[.int .i64 ix, .slice none 0 0, .slice A l.length c, .slice B m.length d]] w fun e w' => (∃ A' c' B' d', e = .returned (.agg #[.int .i64 ix, .slice none 0 0, .slice A' l.length c', .slice B' m.length d']) ∧ l.length ≤ c' ∧ m.length ≤ d' ∧ LinksP (fun b => w.heap.size ≤ b) w' A' l ∧ LinksP (fun b => w.heap.size ≤ b) w' B' m) ∧ Below w.heap.size w w' := by
  obtain ⟨N, hN⟩ : ∃ N, l.length = N := ⟨_, rfl⟩
  obtain ⟨M, hM⟩ : ∃ M, m.length = M := ⟨_, rfl⟩
  obtain ⟨w1, hw1⟩ : ∃ w1, w.alloc (.cells #[.int .i64 ix, .slice none 0 0, .slice A N c, .slice B M d] 58) = w1 := ⟨_, rfl⟩
  obtain ⟨w2, hw2⟩ : ∃ w2, w1.alloc (.cells #[.int .i64 0, .slice none 0 0, .slice none 0 0, .slice none 0 0] 58) = w2 := ⟨_, rfl⟩
  have b1 : Below w.heap.size w w1 := by rw [← hw1]; exact (Below.refl _ _).alloc (Nat.le_refl _) _
  have b2 : Below w1.heap.size w1 w2 := by rw [← hw2]; exact (Below.refl _ _).alloc (Nat.le_refl _) _
  have q1 : w1.heap[w.heap.size]? = some (.cells #[.int .i64 ix, .slice none 0 0, .slice A N c, .slice B M d] 58 (0, 0)) := by rw [← hw1]; exact heap_alloc_new _ _
  have q2 : w2.heap[w1.heap.size]? = some (.cells #[.int .i64 0, .slice none 0 0, .slice none 0 0, .slice none 0 0] 58 (0, 0)) := by rw [← hw2]; exact heap_alloc_new _ _
  have l1 := lt_of_block q1
  have l2 := lt_of_block q2
  have b02 : Below w.heap.size w w2 := b1.trans (b2.mono (by omega))
  have s02 : w.heap.size ≤ w2.heap.size := by omega
  have Q1 := Lib.hid ((b2.block _ l1).trans q1)
  have Q2 := Lib.hid q2
  have B02 := Lib.hid b02
  have CL : Hid (∀ W, Below w2.heap.size w2 W → Calls Try.prog 54 #[.slice A N c] W fun e w' => (∃ A' c', e = .returned (.slice A' N c') ∧ N ≤ c' ∧ LinksP (fun b => W.heap.size ≤ b) w' A' l) ∧ Below W.heap.size W w') := Lib.hid (fun W hW => by
    have := oLinks_any q l A c W hn hst (hl.below (b02.trans (hW.mono s02)))
    rwa [hN] at this)
  have CM : Hid (∀ W, Below w2.heap.size w2 W → Calls Try.prog 54 #[.slice B M d] W fun e w' => (∃ A' c', e = .returned (.slice A' M c') ∧ M ≤ c' ∧ LinksP (fun b => W.heap.size ≤ b) w' A' m) ∧ Below W.heap.size W w') := Lib.hid (fun W hW => by
    have := oLinks_any q' m B d W hm hmt (hl'.below (b02.trans (hW.mono s02)))
    rwa [hM] at this)
  have SC : Hid (∀ W, Below w2.heap.size w2 W → W.cell? ⟨w.heap.size, 0, none⟩ = some (.int .i64 ix) ∧ W.cell? ⟨w.heap.size, 2, none⟩ = some (.slice A N c) ∧ W.cell? ⟨w.heap.size, 3, none⟩ = some (.slice B M d)) := Lib.hid (fun W hW => by
    have e := (hW.block _ (by omega)).trans Q1.out
    exact ⟨Lib.cell_of_heap e 0, Lib.cell_of_heap e 2, Lib.cell_of_heap e 3⟩)
  have G0 : Below w2.heap.size w2 w2.drew := (Below.refl _ _).drew
  have aa : ∀ W W', Below w2.heap.size w2 W → Below W.heap.size W W' → Below w2.heap.size w2 W' := fun W W' h h' => h.trans (h'.mono h.size)
  have HA0 : Below w2.heap.size w2 (w2.alloc (.cells #[.int .i64 0, .slice none 0 0, .slice none 0 0, .slice none 0 0] 58)).drew := ((Below.refl _ _).alloc (Nat.le_refl _) _).drew
  have HA1 : w2.heap.size < (w2.alloc (.cells #[.int .i64 0, .slice none 0 0, .slice none 0 0, .slice none 0 0] 58)).drew.heap.size := by simp [World.drew]
  have HA2 : (w2.alloc (.cells #[.int .i64 0, .slice none 0 0, .slice none 0 0, .slice none 0 0] 58)).drew.heap[w2.heap.size]? = some (Obj.cells #[.int .i64 0, .slice none 0 0, .slice none 0 0, .slice none 0 0] 58 (0, 0)) := heap_alloc_new w2 _
  have HN := Lib.hid hN
  have HM := Lib.hid hM
  rw [hN, hM]
  clear hl hl' hst hmt hn hm hN hM b1 b2 q1 q2 b02
  go_enter Try.func42, Try.ntmps42
  go_upto_region 1 with fail
  clear hw1 hw2
  go_region_held3 (fun W => W.cell? ⟨w.heap.size, 0, none⟩ = some (.int .i64 ix) ∧ W.cell? ⟨w.heap.size, 2, none⟩ = some (.slice A N c) ∧ W.cell? ⟨w.heap.size, 3, none⟩ = some (.slice B M d))
    (first | exact SC.out _ G0 | exact SC.out _ HA0 | assumption | (refine SC.out _ ?_; assumption) | exact SC.out _ (hsa5 _) | exact SC.out _ (hsa6 _) | exact SC.out _ HA0)
    (first
      | (go_at_call 54; ((with_reducible refine (CL.out w2.drew G0).mono ?_)); rintro e w5 ⟨⟨A5, c5, rfl, hc5, h5⟩, hb5'⟩; have hb5 := aa _ _ G0 hb5'; have hsa5 : ∀ o, Below w2.heap.size w2 (w5.alloc o) := fun o => hb5.alloc hb5.size o; have H5 : Hid (LinksP (fun b => w2.heap.size ≤ b) w5 A5 l ∧ N ≤ c5) := Lib.hid ⟨h5, hc5⟩; clear h5 hc5)
      | (go_at_call 54; ((with_reducible refine (CL.out (w2.alloc (.cells #[.int .i64 0, .slice none 0 0, .slice none 0 0, .slice none 0 0] 58)).drew HA0).mono ?_)); rintro e w5 ⟨⟨A5, c5, rfl, hc5, h5⟩, hb5'⟩; have hb5 := aa _ _ HA0 hb5'; have hsa5 : ∀ o, Below w2.heap.size w2 (w5.alloc o) := fun o => hb5.alloc hb5.size o; have qb5 := Lib.hid ((hb5'.block w2.heap.size HA1).trans HA2); have H5 : Hid (LinksP (fun b => w2.heap.size < b) w5 A5 l ∧ N ≤ c5) := Lib.hid ⟨h5.keep (fun _ _ _ => rfl) (Nat.le_refl _) (fun b _ h => Nat.lt_of_lt_of_le HA1 h), hc5⟩; clear h5 hc5)
      | (go_at_call 54; ((with_reducible refine (CM.out (w5.alloc (.cells #[.int .i64 0, .slice none 0 0, .slice none 0 0, .slice none 0 0] 58)) (hb5.alloc hb5.size _)).mono ?_)); rintro e w6 ⟨⟨A6, c6, rfl, hc6, h6⟩, hb6'⟩; have hb6 := aa _ _ (hb5.alloc hb5.size _) hb6'; have hsa6 : ∀ o, Below w2.heap.size w2 (w6.alloc o) := fun o => hb6.alloc hb6.size o; have qb6 := (hb6'.block w5.heap.size (by simp)).trans (heap_alloc_new w5 (.cells #[.int .i64 0, .slice none 0 0, .slice none 0 0, .slice none 0 0] 58)); obtain ⟨s1, s2, s3, s4, k1, k2, k3, k4, ⟨x0, x1, x2, x3⟩, ⟨t0, t1, t2, t3⟩, hq, ho⟩ := put4 qb6 (.int .i64 ix) (.slice none 0 0) (.slice A5 N c5) (.slice A6 M c6); have hs4 : Below w2.heap.size w2 s4 := Oth.below hb6 ho hb5.size hb6.size; have HF : Hid (CpI w2 w5.heap.size ix l m A5 A6 N M c5 c6 s4) := Lib.hid (cpi_mid H5.out.1 H5.out.2 h6 hc6 hb5.size hb6' hq ho hs4); clear hq ho qb6 h6 hc6)
      | (go_at_call 54; ((with_reducible refine (CM.out w5 hb5).mono ?_)); rintro e w6 ⟨⟨A6, c6, rfl, hc6, h6⟩, hb6'⟩; have hb6 := aa _ _ hb5 hb6'; have hsa6 : ∀ o, Below w2.heap.size w2 (w6.alloc o) := fun o => hb6.alloc hb6.size o; have qb6 := (hb6'.block w2.heap.size (lt_of_block qb5.out)).trans qb5.out; obtain ⟨s1, s2, s3, s4, k1, k2, k3, k4, ⟨x0, x1, x2, x3⟩, ⟨t0, t1, t2, t3⟩, hq, ho⟩ := put4 qb6 (.int .i64 ix) (.slice none 0 0) (.slice A5 N c5) (.slice A6 M c6); have hs4 : Below w2.heap.size w2 s4 := Oth.below hb6 ho (Nat.le_refl _) hb6.size; have HF : Hid (CpI w2 w2.heap.size ix l m A5 A6 N M c5 c6 s4) := Lib.hid (cpi_first H5.out.1 H5.out.2 h6 hc6 (lt_of_block qb5.out) hb6' hq ho hs4); clear hq ho qb6 h6 hc6)
      | (go_at_call 54; ((with_reducible refine (CM.out w5 hb5).mono ?_)); rintro e w6 ⟨⟨A6, c6, rfl, hc6, h6⟩, hb6'⟩; have hb6 := aa _ _ hb5 hb6'; have hsa6 : ∀ o, Below w2.heap.size w2 (w6.alloc o) := fun o => hb6.alloc hb6.size o; have H6 : Hid (LinksP (fun b => w2.heap.size ≤ b) w6 A5 l ∧ N ≤ c5 ∧ LinksP (fun b => w2.heap.size ≤ b) w6 A6 m ∧ M ≤ c6) := Lib.hid ⟨H5.out.1.below hb6', H5.out.2, h6.keep (fun _ _ _ => rfl) (Nat.le_refl _) (fun b _ h => Nat.le_trans hb5.size h), hc6⟩; clear h6 hc6))
  · obtain ⟨s4, hs4⟩ : ∃ s4, w6.alloc (.cells #[.int .i64 ix, .slice none 0 0, .slice A5 N c5, .slice A6 M c6] 58) = s4 := ⟨_, rfl⟩
    have HF : Hid (CpI w2 w6.heap.size ix l m A5 A6 N M c5 c6 s4) := Lib.hid (by
      have bz : Below w6.heap.size w6 s4 := by rw [← hs4]; exact (Below.refl _ _).alloc (Nat.le_refl _) _
      exact ⟨hb6.trans (bz.mono hb6.size), hb6.size, by rw [← hs4]; exact heap_alloc_new _ _, ⟨H6.out.1.below bz, H6.out.2.1⟩, ⟨H6.out.2.2.1.below bz, H6.out.2.2.2⟩⟩)
    rw [hs4]
    clear hs4
    obtain ⟨hbW, hBx, hqB, ⟨g5, hc5⟩, ⟨g6, hc6⟩⟩ := HF.out
    obtain ⟨y0, y1, y2, y3⟩ := cells4t ((hbW.block _ (by omega)).trans Q1.out)
    obtain ⟨z0, z1, z2, z3⟩ := cells4t hqB
    obtain ⟨r1, r2, r3, r4, m1, m2, m3, m4, ⟨p0, p1, p2, p3⟩, ⟨f0, f1, f2, f3⟩, hqr, hor⟩ := put4 ((hbW.block _ l2).trans Q2.out) (.int .i64 ix) (.slice none 0 0) (.slice A5 N c5) (.slice A6 M c6)
    have HQ := Lib.hid hqr
    have HZ : Hid ((∃ A' c' B' d', Ending.returned (.agg #[.int .i64 ix, .slice none 0 0, .slice A5 N c5, .slice A6 M c6]) = .returned (.agg #[.int .i64 ix, .slice none 0 0, .slice A' N c', .slice B' M d']) ∧ N ≤ c' ∧ M ≤ d' ∧ LinksP (fun b => w.heap.size ≤ b) r4 A' l ∧ LinksP (fun b => w.heap.size ≤ b) r4 B' m) ∧ Below w.heap.size w r4) := Lib.hid ⟨⟨A5, c5, A6, c6, rfl, hc5, hc6, g5.keep (fun b hb hlt => hor.block b hlt (fun e => by have e := Option.some.inj e; have hb : w2.heap.size ≤ b := hb; omega)) hor.size (fun b _ hb => Nat.le_trans s02 hb), g6.keep (fun b hb hlt => hor.block b hlt (fun e => by have e := Option.some.inj e; have hb : w2.heap.size ≤ b := hb; omega)) hor.size (fun b _ hb => Nat.le_trans s02 hb)⟩, Oth.below (B02.out.trans (hbW.mono s02)) hor (by omega) (Nat.le_trans s02 hbW.size)⟩
    clear hqr hor g5 g6 hqB hbW HF
    go_wp2_with fail
    go_loopw [18] (fun i wr => i = .int .i64 0 ∧ wr = s4) (fun i _ => 0)
    case atStart => exact ⟨rfl, by simp⟩
    case round =>
      obtain ⟨rfl, hwx⟩ := hrel
      subst hwx
      go_wp2_with fail
      refine bodyPost_ret (results_proof rfl _ _ _ _ _ _ _ rfl HQ.out) rfl ?_
      exact HZ.out
  · clear k1 k2 k3 k4 x0 x1 x2 x3 t0 t1 t2 t3
    obtain ⟨hbW, hBx, hqB, ⟨g5, hc5⟩, ⟨g6, hc6⟩⟩ := HF.out
    obtain ⟨y0, y1, y2, y3⟩ := cells4t ((hbW.block _ (by omega)).trans Q1.out)
    obtain ⟨z0, z1, z2, z3⟩ := cells4t hqB
    obtain ⟨r1, r2, r3, r4, m1, m2, m3, m4, ⟨p0, p1, p2, p3⟩, ⟨f0, f1, f2, f3⟩, hqr, hor⟩ := put4 ((hbW.block _ l2).trans Q2.out) (.int .i64 ix) (.slice none 0 0) (.slice A5 N c5) (.slice A6 M c6)
    have HQ := Lib.hid hqr
    have HZ : Hid ((∃ A' c' B' d', Ending.returned (.agg #[.int .i64 ix, .slice none 0 0, .slice A5 N c5, .slice A6 M c6]) = .returned (.agg #[.int .i64 ix, .slice none 0 0, .slice A' N c', .slice B' M d']) ∧ N ≤ c' ∧ M ≤ d' ∧ LinksP (fun b => w.heap.size ≤ b) r4 A' l ∧ LinksP (fun b => w.heap.size ≤ b) r4 B' m) ∧ Below w.heap.size w r4) := Lib.hid ⟨⟨A5, c5, A6, c6, rfl, hc5, hc6, g5.keep (fun b hb hlt => hor.block b hlt (fun e => by have e := Option.some.inj e; have hb : w2.heap.size ≤ b := hb; omega)) hor.size (fun b _ hb => Nat.le_trans s02 hb), g6.keep (fun b hb hlt => hor.block b hlt (fun e => by have e := Option.some.inj e; have hb : w2.heap.size ≤ b := hb; omega)) hor.size (fun b _ hb => Nat.le_trans s02 hb)⟩, Oth.below (B02.out.trans (hbW.mono s02)) hor (by omega) (Nat.le_trans s02 hbW.size)⟩
    clear hqr hor g5 g6 hqB hbW HF
    go_wp2_with fail
    go_loopw [18] (fun i wr => i = .int .i64 0 ∧ wr = s4) (fun i _ => 0)
    case atStart => exact ⟨rfl, by simp⟩
    case round =>
      obtain ⟨rfl, hwx⟩ := hrel
      subst hwx
      go_wp2_with fail
      refine bodyPost_ret (results_proof rfl _ _ _ _ _ _ _ rfl HQ.out) rfl ?_
      exact HZ.out
  · clear k1 k2 k3 k4 x0 x1 x2 x3 t0 t1 t2 t3
    obtain ⟨hbW, hBx, hqB, ⟨g5, hc5⟩, ⟨g6, hc6⟩⟩ := HF.out
    obtain ⟨y0, y1, y2, y3⟩ := cells4t ((hbW.block _ (by omega)).trans Q1.out)
    obtain ⟨z0, z1, z2, z3⟩ := cells4t hqB
    obtain ⟨r1, r2, r3, r4, m1, m2, m3, m4, ⟨p0, p1, p2, p3⟩, ⟨f0, f1, f2, f3⟩, hqr, hor⟩ := put4 ((hbW.block _ l2).trans Q2.out) (.int .i64 ix) (.slice none 0 0) (.slice A5 N c5) (.slice A6 M c6)
    have HQ := Lib.hid hqr
    have HZ : Hid ((∃ A' c' B' d', Ending.returned (.agg #[.int .i64 ix, .slice none 0 0, .slice A5 N c5, .slice A6 M c6]) = .returned (.agg #[.int .i64 ix, .slice none 0 0, .slice A' N c', .slice B' M d']) ∧ N ≤ c' ∧ M ≤ d' ∧ LinksP (fun b => w.heap.size ≤ b) r4 A' l ∧ LinksP (fun b => w.heap.size ≤ b) r4 B' m) ∧ Below w.heap.size w r4) := Lib.hid ⟨⟨A5, c5, A6, c6, rfl, hc5, hc6, g5.keep (fun b hb hlt => hor.block b hlt (fun e => by have e := Option.some.inj e; have hb : w2.heap.size ≤ b := hb; omega)) hor.size (fun b _ hb => Nat.le_trans s02 hb), g6.keep (fun b hb hlt => hor.block b hlt (fun e => by have e := Option.some.inj e; have hb : w2.heap.size ≤ b := hb; omega)) hor.size (fun b _ hb => Nat.le_trans s02 hb)⟩, Oth.below (B02.out.trans (hbW.mono s02)) hor (by omega) (Nat.le_trans s02 hbW.size)⟩
    clear hqr hor g5 g6 hqB hbW HF
    go_wp2_with fail
    go_loopw [18] (fun i wr => i = .int .i64 0 ∧ wr = s4) (fun i _ => 0)
    case atStart => exact ⟨rfl, by simp⟩
    case round =>
      obtain ⟨rfl, hwx⟩ := hrel
      subst hwx
      go_wp2_with fail
      refine bodyPost_ret (results_proof rfl _ _ _ _ _ _ _ rfl HQ.out) rfl ?_
      exact HZ.out
end Go.Proofs.Ytadjpadieljjlaa
