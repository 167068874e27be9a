/- Parts of the proof that no input makes the law false: OcCop, OcPrv, OcHld. -/
import Derived.Test.YtadjpadieljjlaaGreatTvAI
import Derived.Test.YtadjpadieljjlaaGreatTvAM
import Derived.Test.YtadjpadieljjlaaGreatTvAO
import Derived.Test.YtadjpadieljjlaaGreatTvAQ
set_option linter.unusedVariables false
set_option linter.unusedSimpArgs false
namespace Go.Proofs.YtadjpadieljjlaaGreat
open Go.RowKit Go.Maps
def CpX (w2 : World) (ix : Int) (s : Value) (wx : World) : Prop := ∃ (B : Nat) (A5 A6 : Option Addr) (N5 N6 c5 c6 : Nat), s = .pointer (some ⟨B, 0, none⟩) ∧ wx.heap[B]? = some (.cells #[.int .i64 ix, .slice none 0 0, .slice A5 N5 c5, .slice A6 N6 c6] 39 (0, 0)) ∧ Below w2.heap.size w2 wx ∧ w2.heap.size ≤ B
def CopAns (w : World) (e : Ending) (w' : World) : Prop := (∃ (ix : Int) (A A1 A2 : Option Addr) (n n1 n2 c c1 c2 : Nat), e = .returned (.agg #[.int .i64 ix, .slice A n c, .slice A1 n1 c1, .slice A2 n2 c2])) ∧ Below w.heap.size w w'
structure CoI (w2 wq : World) (B : Nat) (ix : Int) (S5 S6 : Value) (k : Nat) (A : Option Addr) (c : Nat) (wr : World) : Prop where
 blk : wr.heap[B]? = some (.cells #[.int .i64 ix, .slice A k c, S5, S6] 39 (0, 0))
 own : ∃ xs, wr.ownsRow wq.heap.size 39 4 (.slice A k c) k xs
 bel : Below w2.heap.size w2 wr
 size : wq.heap.size ≤ wr.heap.size
theorem oneCellP {ix : Int} {A A1 A2 : Option Addr} {n n1 n2 c c1 c2 : Nat} : ∀ u ∈ [Value.int .i64 ix, .slice A n c, .slice A1 n1 c1, .slice A2 n2 c2], u.oneCell' = true := by
 intro u hu
 simp only [List.mem_cons, List.not_mem_nil, or_false] at hu
 rcases hu with rfl | rfl | rfl | rfl <;> rfl
theorem CoI.step {w2 wq wr w9 w10 : World} {B : Nat} {ix : Int} {S5 S6 : Value} {k : Nat} {A : Option Addr} {c : Nat} {v' : Value} {o : Obj} {xs ys : List Value} (h : CoI w2 wq B ix S5 S6 k A c wr) (hB : B < wq.heap.size) (hwB : w2.heap.size ≤ B) (b9 : Below wr.heap.size wr w9) (hown : wr.ownsRow wq.heap.size 39 4 (.slice A k c) k xs)
  (hown' : w10.ownsRow wq.heap.size 39 4 v' (k + 1) ys) (hg : (w9.alloc o).grownBy w10 (Value.slice A k c).ownBlock) :
  w10.heap[B]? = some (.cells #[.int .i64 ix, .slice A k c, S5, S6] 39 (0, 0)) ∧ ∀ A' c', v' = .slice A' (k + 1) c' → CoI w2 wq B ix S5 S6 (k + 1) A' c' (w10.setCell ⟨B, 1, none⟩ v') := by
 have hs9 := b9.size
 have hs10 : w9.heap.size + 1 ≤ w10.heap.size := by have := hg.size; simpa using this
 have hsz := h.size
 have hs2 := h.bel.size
 have hne : ∀ b, b < wq.heap.size → (Value.slice A k c).ownBlock ≠ some b := fun b hb e => by have := (hown.lt b e).1; omega
 have hk : ∀ b, b < wq.heap.size → w10.heap[b]? = wr.heap[b]? := fun b hb => (hg.block b (by simp; omega) (fun e => hne b hb e.symm)).trans ((Lib.alloc_old _ _ _ (by omega)).trans (b9.block b (by omega)))
 have hb10 : w10.heap[B]? = some (.cells #[.int .i64 ix, .slice A k c, S5, S6] 39 (0, 0)) := (hk B hB).trans h.blk
 refine ⟨hb10, ?_⟩
 rintro A' c' rfl
 have ho : Oth B w10 (w10.setCell ⟨B, 1, none⟩ (.slice A' (k + 1) c')) := Oth.set _ _
 have hos := ho.size
 refine ⟨by simp [World.setCell, Array.getElem?_modify, hb10], ⟨_, ownsRow_keep hown' (fun g hg2 => ho.block g (hown'.lt g hg2).2 (fun e => by have := (hown'.lt g hg2).1; have := Option.some.inj e; omega))⟩, ?_, by omega⟩
 have hbg : Below w2.heap.size w2 w10 := Below.grown ((h.bel.trans (b9.mono hs2)).alloc (by omega) o) hg (by simp; omega) (fun b e => by have := (hown.lt b e).1; omega)
 exact Oth.below hbg ho hwB hbg.size
set_option maxRecDepth 100000 in
set_option maxHeartbeats 16000000 in
theorem oCopiedF_upto (m : Nat) (hmm : m ≤ 100000) : ∀ (pf : Lfc.Pf) (q : Nat → Prop) (ix : Int) (A A1 A2 : Option Addr) (n n1 n2 c c1 c2 : Nat) (w : World), pf.size ≤ m → PfP q w pf (.int .i64 ix) (.slice A n c) (.slice A1 n1 c1) (.slice A2 n2 c2) →
  Calls Tryz.prog 37 #[.agg #[.int .i64 ix, .slice A n c, .slice A1 n1 c1, .slice A2 n2 c2]] w (CopAns w) := by
 induction m with
 | zero => intro pf q ix A A1 A2 n n1 n2 c c1 c2 w h; have := pf.size_pos; omega
 | succ m ih0 =>
  intro pf q ix A A1 A2 n n1 n2 c c1 c2 w hm hp
  have IH := Lib.hid (ih0 (by omega))
  clear ih0
  obtain ⟨ps⟩ := pf
  rw [PfP] at hp
  obtain ⟨_, ⟨A', c', e, hc, hps⟩, ⟨A1', n1', c1', e1, hn1, hl1⟩, ⟨A2', n2', c2', e2, hn2, hl2⟩⟩ := hp
  injection e with e3 e4 e5
  subst e3 e4 e5
  injection e1 with e3 e4 e5
  subst e3 e4 e5
  injection e2 with e3 e4 e5
  subst e3 e4 e5
  rw [Lfc.Pf.size] at hm
  have hsl := Lfc.Pf.sizes_len ps
  obtain ⟨n, hn⟩ : ∃ n, ps.length = n := ⟨_, rfl⟩
  obtain ⟨i0, hi, hz0, hz1, hz2⟩ := info_parts proofInfo
  obtain ⟨w1, hw1⟩ : ∃ w1, w.alloc (.cells #[.int .i64 ix, .slice A n c, .slice A1 n1 c1, .slice A2 n2 c2] 39) = w1 := ⟨_, rfl⟩
  obtain ⟨w2, hw2⟩ : ∃ w2, w1.alloc (.cells #[.int .i64 0, .slice none 0 0, .slice none 0 0, .slice none 0 0] 39) = w2 := ⟨_, rfl⟩
  have b1 : Below w.heap.size w w1 := by rw [← hw1]; exact (Below.refl _ _).alloc (Nat.le_refl _) _
  have b2 : Below w1.heap.size w1 w2 := by rw [← hw2]; exact (Below.refl _ _).alloc (Nat.le_refl _) _
  have q1 : w1.heap[w.heap.size]? = some (.cells #[.int .i64 ix, .slice A n c, .slice A1 n1 c1, .slice A2 n2 c2] 39 (0, 0)) := by rw [← hw1]; exact heap_alloc_new _ _
  have q2 : w2.heap[w1.heap.size]? = some (.cells #[.int .i64 0, .slice none 0 0, .slice none 0 0, .slice none 0 0] 39 (0, 0)) := by rw [← hw2]; exact heap_alloc_new _ _
  have l1 := lt_of_block q1
  have l2 := lt_of_block q2
  have b02 : Below w.heap.size w w2 := b1.trans (b2.mono (by omega))
  have s02 : w.heap.size ≤ w2.heap.size := by omega
  have Q1 := Lib.hid ((b2.block _ l1).trans q1)
  have Q2 := Lib.hid q2
  have B02 := Lib.hid b02
  have CL : Hid (∀ W, Below w2.heap.size w2 W → Calls Tryz.prog 64 #[.slice A1 n1 c1] W fun e w' => (∃ A' n' c', e = .returned (.slice A' n' c')) ∧ Below W.heap.size W w') := Lib.hid (fun W hW => by
   obtain ⟨_, l, hll, hl, hlz⟩ := hl1
   have hb := b02.trans (hW.mono s02)
   have := oLinks_any q l A1 c1 W (by omega) hlz (hl.below hb)
   rw [hll] at this
   refine this.mono ?_
   rintro e w' ⟨⟨A', c', rfl, _, _⟩, hb'⟩
   exact ⟨⟨_, _, _, rfl⟩, hb'⟩)
  have CM : Hid (∀ W, Below w2.heap.size w2 W → Calls Tryz.prog 64 #[.slice A2 n2 c2] W fun e w' => (∃ A' n' c', e = .returned (.slice A' n' c')) ∧ Below W.heap.size W w') := Lib.hid (fun W hW => by
   obtain ⟨_, l, hll, hl, hlz⟩ := hl2
   have hb := b02.trans (hW.mono s02)
   have := oLinks_any q l A2 c2 W (by omega) hlz (hl.below hb)
   rw [hll] at this
   refine this.mono ?_
   rintro e w' ⟨⟨A', c', rfl, _, _⟩, hb'⟩
   exact ⟨⟨_, _, _, rfl⟩, hb'⟩)
  have SC : Hid (∀ W, Below w2.heap.size w2 W → W.cell? ⟨w.heap.size, 0, none⟩ = some (.int .i64 ix) ∧ W.cell? ⟨w.heap.size, 2, none⟩ = some (.slice A1 n1 c1) ∧ W.cell? ⟨w.heap.size, 3, none⟩ = some (.slice A2 n2 c2)) := Lib.hid (fun W hW => by
   have e := (hW.block _ (by omega)).trans Q1.out
   exact ⟨Lib.cell_of_heap e 0, Lib.cell_of_heap e 2, Lib.cell_of_heap e 3⟩)
  have PTS : Hid (∀ k (h : k < ps.length), ∃ b o, A = some ⟨b, o, none⟩ ∧ b < w.heap.size ∧ ∃ ix1 B1 m1 d1 B2 m2 d2 B3 m3 d3, w.cell? ⟨b, o + k * 4, none⟩ = some (.int .i64 ix1) ∧ w.cell? ⟨b, o + k * 4 + 1, none⟩ = some (.slice B1 m1 d1) ∧ w.cell? ⟨b, o + k * 4 + 2, none⟩ = some (.slice B2 m2 d2) ∧ w.cell? ⟨b, o + k * 4 + 3, none⟩ = some (.slice B3 m3 d3) ∧ PfP q w ps[k] (.int .i64 ix1) (.slice B1 m1 d1) (.slice B2 m2 d2) (.slice B3 m3 d3)) := Lib.hid (fun k hk => by
   obtain ⟨b, o, hA, hlt, hqb, hh⟩ := hps (by intro h0; rw [h0] at hk; cases hk)
   obtain ⟨v0, v1, v2, v3, c0, c1', c2', c3, hP⟩ := PfsP.at_ ps o k hk hh
   have hP' := hP
   cases hpk : ps[k] with
   | node rs =>
    rw [hpk, PfP] at hP
    obtain ⟨⟨ix1, rfl⟩, ⟨B1, d1, rfl, _, _⟩, ⟨B2, m2, d2, rfl, _, _⟩, ⟨B3, m3, d3, rfl, _, _⟩⟩ := hP
    rw [hpk] at hP'
    exact ⟨b, o, hA, hlt, ix1, B1, _, d1, B2, m2, d2, B3, m3, d3, c0, c1', c2', c3, hP'⟩)
  have HM : Hid (∀ k (h : k < ps.length), ps[k].size ≤ m) := Lib.hid (fun k h => by have := Lfc.Pf.sizes_mem ps ps[k] (List.getElem_mem _); omega)
  have HN := Lib.hid hn
  have hnb : n ≤ 100000 := by omega
  have G0 : Below w2.heap.size w2 w2.drew := (Below.refl _ _).drew
  rw [hn]
  clear b1 b2 q1 q2 b02 hl1 hl2 hps hc hm hsl hn
  go_enter Tryz.func37, Tryz.ntmps37
  go_upto_region 1 with fail
  clear hw1 hw2
  go_cut [3] (fun s wx => Hid (CpX w2 ix s wx))
  case first =>
   refine wp_region_held_drew (S := fun W => W.cell? ⟨w.heap.size, 0, none⟩ = some (.int .i64 ix) ∧ W.cell? ⟨w.heap.size, 2, none⟩ = some (.slice A1 n1 c1) ∧ W.cell? ⟨w.heap.size, 3, none⟩ = some (.slice A2 n2 c2)) (by kernel_rfl) ?_ (fun hHeld => ?_)
   ·exact SC.out _ G0
   refine tk 0 ?_
   refine tk 1 ?_
   refine tk 2 ?_
   refine tk 3 ?_
   refine tk 5 ?_
   refine tk 6 ?_
   refine wpAnyH_ready (rs := [4, 9]) (by kernel_rfl) (by simp) ?_
   refine AllReadyH.cons rfl (fun K hK => ?_) ?_
   ·go_simp
    go_at_call 64
    refine (CL.out _ (G0)).mono ?_
    rintro e w5 ⟨⟨A5, N5, c5, rfl⟩, b5'⟩
    have b5 := (G0).trans (b5'.mono (G0).size)
    refine hK.out _ _ (SC.out _ b5) (fun hHeld => ?_)
    clear hK K
    refine nrm ?_
    refine wpAnyH_ready (rs := [7, 9]) (by kernel_rfl) (by simp) ?_
    refine AllReadyH.cons rfl (fun K hK => ?_) ?_
    ·go_simp
     go_at_call 64
     refine (CM.out _ (b5)).mono ?_
     rintro e w6 ⟨⟨A6, N6, c6, rfl⟩, b6'⟩
     have b6 := (b5).trans (b6'.mono (b5).size)
     refine hK.out _ _ (SC.out _ b6) (fun hHeld => ?_)
     clear hK K
     refine nrm ?_
     have bA : Below w2.heap.size w2 (w6.alloc (.cells #[.int .i64 0, .slice none 0 0, .slice none 0 0, .slice none 0 0] 39)) := b6.alloc b6.size _
     have bN : Below w2.heap.size w2 (w6.alloc (.cells #[.int .i64 ix, .slice none 0 0, .slice A5 N5 c5, .slice A6 N6 c6] 39)) := b6.alloc b6.size _
     refine tk 8 ?_
     refine wpAnyH_ready (rs := [9]) (by kernel_rfl) (by simp) ?_
     refine AllReadyH.cons rfl (fun K hK => ?_) ?_
     ·go_simp
      refine hK.out _ _ (SC.out _ bA) (fun hHeld => ?_)
      clear hK K
      refine nrm ?_
      have HR : Hid (CpX w2 ix (.pointer (some ⟨w6.heap.size, 0, none⟩)) (w6.alloc (.cells #[.int .i64 ix, .slice none 0 0, .slice A5 N5 c5, .slice A6 N6 c6] 39))) := Lib.hid ⟨w6.heap.size, A5, A6, N5, N6, c5, c6, rfl, heap_alloc_new _ _, bN, b6.size⟩
      refine wpAnyH_ready (rs := [10]) (by kernel_rfl) (by simp) ?_
      refine AllReadyH.cons rfl (fun K hK => ?_) ?_
      ·go_simp
       refine hK.out _ _ (SC.out _ bN) (fun hHeld => ?_)
       clear hK K
       refine nrm ?_
       refine wpAnyH_done (by kernel_rfl) ?_ _
       go_wp2_with fail
       go_meet
       exact HR
      exact AllReadyH.nil
     exact AllReadyH.nil
    refine AllReadyH.cons rfl (fun K hK => ?_) ?_
    ·have bA : Below w2.heap.size w2 (w5.alloc (.cells #[.int .i64 0, .slice none 0 0, .slice none 0 0, .slice none 0 0] 39)) := b5.alloc b5.size _
     have hsA : (w5.alloc (.cells #[.int .i64 0, .slice none 0 0, .slice none 0 0, .slice none 0 0] 39)).heap.size = w5.heap.size + 1 := by simp
     have hgs : w2.heap.size ≤ w5.heap.size := b5.size
     go_simp
     refine hK.out _ _ (SC.out _ bA) (fun hHeld => ?_)
     clear hK K
     refine nrm ?_
     refine wpAnyH_ready (rs := [7]) (by kernel_rfl) (by simp) ?_
     refine AllReadyH.cons rfl (fun K hK => ?_) ?_
     ·go_simp
      go_at_call 64
      refine (CM.out _ (bA)).mono ?_
      rintro e w6 ⟨⟨A6, N6, c6, rfl⟩, b6'⟩
      have b6 := (bA).trans (b6'.mono (bA).size)
      refine hK.out _ _ (SC.out _ b6) (fun hHeld => ?_)
      clear hK K
      refine nrm ?_
      refine tk 8 ?_
      obtain ⟨s1, s2, s3, s4, h1', h2', h3', h4', ⟨y0, y1, y2, y3⟩, ⟨ff0, ff1, ff2, ff3⟩, hq, hot⟩ := put4 ((b6'.block _ (by rw [hsA]; omega)).trans (heap_alloc_new w5 _)) (.int .i64 ix) (.slice none 0 0) (.slice A5 N5 c5) (.slice A6 N6 c6)
      have BS := Lib.hid (Oth.below b6 hot hgs b6.size)
      have HR : Hid (CpX w2 ix (.pointer (some ⟨w5.heap.size, 0, none⟩)) s4) := Lib.hid ⟨w5.heap.size, A5, A6, N5, N6, c5, c6, rfl, hq, BS.out, hgs⟩
      clear hq hot
      refine wpAnyH_ready (rs := [10]) (by kernel_rfl) (by simp) ?_
      refine AllReadyH.cons rfl (fun K hK => ?_) ?_
      ·go_simp
       refine hK.out _ _ (SC.out _ BS.out) (fun hHeld => ?_)
       clear hK K
       refine nrm ?_
       refine wpAnyH_done (by kernel_rfl) ?_ _
       go_wp2_with fail
       go_meet
       exact HR
      exact AllReadyH.nil
     exact AllReadyH.nil
    exact AllReadyH.nil
   refine AllReadyH.cons rfl (fun K hK => ?_) ?_
   ·have bA : Below w2.heap.size w2 (w2.drew.alloc (.cells #[.int .i64 0, .slice none 0 0, .slice none 0 0, .slice none 0 0] 39)) := G0.alloc G0.size _
    have hsA : (w2.drew.alloc (.cells #[.int .i64 0, .slice none 0 0, .slice none 0 0, .slice none 0 0] 39)).heap.size = w2.heap.size + 1 := by simp
    have hgs : w2.heap.size ≤ w2.heap.size := Nat.le_refl _
    go_simp
    refine hK.out _ _ (SC.out _ bA) (fun hHeld => ?_)
    clear hK K
    refine nrm ?_
    refine wpAnyH_ready (rs := [4]) (by kernel_rfl) (by simp) ?_
    refine AllReadyH.cons rfl (fun K hK => ?_) ?_
    ·go_simp
     go_at_call 64
     refine (CL.out _ (bA)).mono ?_
     rintro e w5 ⟨⟨A5, N5, c5, rfl⟩, b5'⟩
     have b5 := (bA).trans (b5'.mono (bA).size)
     refine hK.out _ _ (SC.out _ b5) (fun hHeld => ?_)
     clear hK K
     refine nrm ?_
     refine wpAnyH_ready (rs := [7]) (by kernel_rfl) (by simp) ?_
     refine AllReadyH.cons rfl (fun K hK => ?_) ?_
     ·go_simp
      go_at_call 64
      refine (CM.out _ (b5)).mono ?_
      rintro e w6 ⟨⟨A6, N6, c6, rfl⟩, b6'⟩
      have b6 := (b5).trans (b6'.mono (b5).size)
      refine hK.out _ _ (SC.out _ b6) (fun hHeld => ?_)
      clear hK K
      refine nrm ?_
      have hs5 := b5'.size
      simp at hs5
      refine tk 8 ?_
      obtain ⟨s1, s2, s3, s4, h1', h2', h3', h4', ⟨y0, y1, y2, y3⟩, ⟨ff0, ff1, ff2, ff3⟩, hq, hot⟩ := put4 ((b6'.block _ (by omega)).trans ((b5'.block w2.heap.size (by simp)).trans (heap_alloc_new w2 _))) (.int .i64 ix) (.slice none 0 0) (.slice A5 N5 c5) (.slice A6 N6 c6)
      have BS := Lib.hid (Oth.below b6 hot hgs b6.size)
      have HR : Hid (CpX w2 ix (.pointer (some ⟨w2.heap.size, 0, none⟩)) s4) := Lib.hid ⟨w2.heap.size, A5, A6, N5, N6, c5, c6, rfl, hq, BS.out, hgs⟩
      clear hq hot
      refine wpAnyH_ready (rs := [10]) (by kernel_rfl) (by simp) ?_
      refine AllReadyH.cons rfl (fun K hK => ?_) ?_
      ·go_simp
       refine hK.out _ _ (SC.out _ BS.out) (fun hHeld => ?_)
       clear hK K
       refine nrm ?_
       refine wpAnyH_done (by kernel_rfl) ?_ _
       go_wp2_with fail
       go_meet
       exact HR
      exact AllReadyH.nil
     exact AllReadyH.nil
    exact AllReadyH.nil
   exact AllReadyH.nil
  case rest =>
   obtain ⟨B, A5, A6, N5, N6, c5, c6, rfl, hqB, hbx, hBw⟩ := hcut.out
   clear hcut SC CL CM G0
   obtain ⟨wq, hwq⟩ : ∃ wq, wq = wc := ⟨_, rfl⟩
   subst hwq
   have lB := lt_of_block hqB
   have I0 : Hid (CoI w2 wq B ix (.slice A5 N5 c5) (.slice A6 N6 c6) 0 none 0 wq) := Lib.hid ⟨hqB, ⟨[], World.ownsRow_nil wq wq.heap.size _ 4⟩, hbx, Nat.le_refl _⟩
   have HBX := Lib.hid hbx
   have sbx := hbx.size
   obtain ⟨y0, y1, y2, y3⟩ := cells4v ((hbx.block _ (by omega)).trans Q1.out)
   clear hqB hbx
   go_wp2_with fail
   go_loopw [18] (fun i wr => ∃ (k : Nat) (A' : Option Addr) (c' : Nat), k ≤ n ∧ i = .int .i64 (k : Int) ∧ Hid (CoI w2 wq B ix (.slice A5 N5 c5) (.slice A6 N6 c6) k A' c' wr)) (fun i _ => n - (intOf i).toNat)
   case atStart => exact ⟨0, none, 0, by omega, rfl, I0⟩
   case round =>
    clear I0 y0 y1 y2 y3
    obtain ⟨k, A7, c7, hk, rfl, HI⟩ := hrel
    have hb2r := HI.out.bel
    by_cases hlt : k < n
    ·have hlt2 : k < ps.length := by rw [HN.out]; exact hlt
     obtain ⟨b, o, rfl, hb, ix1, B1, m1, d1, B2, m2, d2, B3, m3, d3, e0, e1, e2, e3, hP⟩ := PTS.out k hlt2
     have hb0r := B02.out.trans (hb2r.mono s02)
     have f0 := (hb0r.cell (p := ⟨b, o + k * 4, none⟩) hb).trans e0
     have f1 := (hb0r.cell (p := ⟨b, o + k * 4 + 1, none⟩) hb).trans e1
     have f2 := (hb0r.cell (p := ⟨b, o + k * 4 + 2, none⟩) hb).trans e2
     have f3 := (hb0r.cell (p := ⟨b, o + k * 4 + 3, none⟩) hb).trans e3
     have hi0 : (0 : Int) ≤ (k : Int) := Int.natCast_nonneg _
     have hi1 : (k : Int) < (n : Int) := by omega
     obtain ⟨wx, hwx⟩ : ∃ wx, wr.alloc (.cells #[.int .i64 ix1, .slice B1 m1 d1, .slice B2 m2 d2, .slice B3 m3 d3] 39) = wx := ⟨_, rfl⟩
     have bx : Below wr.heap.size wr wx := by rw [← hwx]; exact (Below.refl _ _).alloc (Nat.le_refl _) _
     have qx : wx.heap[wr.heap.size]? = some (.cells #[.int .i64 ix1, .slice B1 m1 d1, .slice B2 m2 d2, .slice B3 m3 d3] 39 (0, 0)) := by rw [← hwx]; exact heap_alloc_new _ _
     have hbd := (Below.refl wx.heap.size wx).drew
     have hb0x := hb0r.trans (bx.mono hb0r.size)
     have CA := Lib.hid (IH.out ps[k] q ix1 B1 B2 B3 m1 m2 m3 d1 d2 d3 wx.drew (HM.out k hlt2) (PfP.keep (fun b _ hlt => (hb0x.trans (hbd.mono hb0x.size)).block b hlt) (hb0x.trans (hbd.mono hb0x.size)).size (fun _ _ h => h) _ _ _ _ _ hP))
     obtain ⟨xs, hown⟩ := HI.out.own
     have HOWN := Lib.hid hown
     have HBX2 := Lib.hid bx
     have HWX := Lib.hid hwx
     have hlm : k + 1 ≤ maxLen := by unfold maxLen; omega
     have hl80 : (k + 1) * 80 ≤ 140737488355328 := by omega
     have hsr := HI.out.size
     have lBr := lt_of_block HI.out.blk
     have QBx := Lib.hid ((bx.block _ lBr).trans HI.out.blk)
     obtain ⟨y0, y1, y2, y3⟩ := cells4v QBx.out
     obtain ⟨x0, x1, x2, x3⟩ := cells4v qx
     have sxr := bx.size
     have lbw : B < wx.heap.size := by omega
     have hsx : wq.heap.size ≤ wx.heap.size := by omega
     clear hwx bx qx e0 e1 e2 e3 hP hb0r hb2r hb0x hown hbd
     go_upto_region 5 with fail
     rw [HWX.out]
     clear HWX f0 f1 f2 f3
     go_region_law (first
      | (go_simp; go_at_call 37; refine CA.out.mono ?_; rintro e w9 ⟨⟨ix9, A9, A10, A11, n9, n10, n11, c9, c10, c11, rfl⟩, b9'⟩; have b9 : Below wr.heap.size wr w9 := HBX2.out.trans (((Below.refl wx.heap.size wx).drew.trans b9').mono HBX2.out.size); have hown9 := ownsRow_keep HOWN.out (fun g hg => b9.block g (HOWN.out.lt g hg).2); have hs9 : wq.heap.size ≤ w9.heap.size := Nat.le_trans hsr b9.size; have q9 := (b9'.block B lbw).trans QBx.out; have z1 : w9.cell? ⟨B, 1, none⟩ = some (.slice A7 k c7) := Lib.cell_of_heap q9 1; have z1a : ∀ o, (w9.alloc o).cell? ⟨B, 1, none⟩ = some (.slice A7 k c7) := fun o => Lib.cell_of_heap ((Lib.alloc_old _ _ _ (lt_of_block q9)).trans q9) 1)
      | (refine step_append_own_at _ (by rfl) _ _ 36 (by rfl) wq.heap.size 39 i0 (.agg #[.int .i64 0, .slice none 0 0, .slice none 0 0, .slice none 0 0]) 4 80 Tryz.underlying36 hi hz0 hz1 hz2 rfl (by decide) _ _ _ (by rfl) (hown9.alloc _) ⟨w9.heap.size, 0, none⟩ 1 1 [.int .i64 ix9, .slice A9 n9 c9, .slice A10 n10 c10, .slice A11 n11 c11] (by rfl) (by rfl) (fun j u h => ocells_new w9 _ rfl [.int .i64 ix9, .slice A9 n9 c9, .slice A10 n10 c10, .slice A11 n11 c11] _ j u h) oneCellP hlm hl80 (oalloc_le hs9) ?_; intro v' w10 hown10 hg10 hloc10; obtain ⟨A12, c12, rfl⟩ := oform hown10; obtain ⟨hr10, hfin⟩ := HI.out.step lB hBw b9 HOWN.out hown10 hg10; have y10 := (Lib.cell_of_heap hr10 1 : w10.cell? ⟨B, 1, none⟩ = some (.slice A7 k c7)); have f10 := Lib.frozen_of_heap hr10 1))
     all_goals
      have HN2 := Lib.hid (hfin A12 c12 rfl)
      clear hfin hown10 hg10 hloc10 hr10 q9 hown9 b9 b9'
      go_wp2_with fail
      go_roundw
      case rel => exact ⟨k + 1, A12, c12, by omega, by go_num, HN2⟩
      case measure => simp [intOf]; omega
    ·obtain rfl : k = n := by omega
     obtain ⟨z0, z1, z2, z3⟩ := cells4v HI.out.blk
     obtain ⟨s1, s2, s3, s4, h1, h2, h3, h4, ⟨c0', c1', c2', c3'⟩, ⟨t0, t1, t2, t3⟩, hq, ho⟩ := put4 ((hb2r.block _ l2).trans Q2.out) (.int .i64 ix) (.slice A7 k c7) (.slice A5 N5 c5) (.slice A6 N6 c6)
     have HQ := Lib.hid hq
     have HZ : Hid (CopAns w (.returned (.agg #[.int .i64 ix, .slice A7 k c7, .slice A5 N5 c5, .slice A6 N6 c6])) s4) := Lib.hid ⟨⟨ix, _, _, _, _, _, _, _, _, _, rfl⟩, Oth.below (B02.out.trans (hb2r.mono s02)) ho (by omega) (Nat.le_trans s02 hb2r.size)⟩
     clear hq ho hb2r HI
     go_wp2_with fail
     refine bodyPost_ret (results_proof rfl _ _ _ _ _ _ _ rfl HQ.out) rfl ?_
     exact HZ.out
end Go.Proofs.YtadjpadieljjlaaGreat
namespace Lfc
def rels (ks : List Int) (fs : List Fact) (ts us : List Raw) (p : Ods) (rel : Int) : Prop :=
 (rel = 1 ∧ Ods.ls (chF ks fs ts us 2) (chF ks fs ts us 1) (chB ks fs ts us) p) ∨ (rel = 2 ∧ Ods.le (chF ks fs ts us 2) (chF ks fs ts us 1) (chB ks fs ts us) p) ∨ (rel = 3 ∧ Ods.eq (chF ks fs ts us 1) (chB ks fs ts us) p)
def hldF (ks : List Int) (fs : List Fact) (o p : Ord) (ts us : List Raw) (rel : Int) : Prop := chkF fs o p ts us = 0 ∧ rels ks fs ts us (odsOf o p) rel
mutual
theorem odsOf_size : ∀ (o p : Ord), (odsOf o p).size ≤ o.size
 | .node k a ps, .node _ a' ps' => by
  have h := odsOfs_size ps ps'
  rw [odsOf, Ord.size]
  split
  ·rw [Ods.size]; omega
  ·split
   ·rw [Ods.size]; omega
   ·rw [Ods.size]; omega
theorem odsOfs_size : ∀ (ps ps' : List Ord), Ods.sizes (odsOfs ps ps') ≤ Ord.sizes ps
 | a :: r, b :: r' => by
  have h1 := odsOf_size a b
  have h2 := odsOfs_size r r'
  rw [odsOfs, Ods.sizes, Ord.sizes]
  omega
 | [], _ => by rw [odsOfs, Ods.sizes]; omega
 | _ :: _, [] => by rw [odsOfs, Ods.sizes]; omega
end
mutual
theorem odsOf_rng (n m : Nat) : ∀ (o p : Ord), o.shp p = true → o.form = true → p.form = true → o.rng 0 ((n : Int) - 1) = true → p.rng 0 ((m : Int) - 1) = true → (odsOf o p).rng n m
 | .node k a ps, .node k' a' ps', hs, hf, hf', hr, hr' => by
  rw [Ord.shp, Bool.and_eq_true, decide_eq_true_eq] at hs
  obtain ⟨rfl, hs⟩ := hs
  rw [Ord.form] at hf hf'
  rw [Ord.rng] at hr hr'
  rw [odsOf]
  by_cases h1 : k = 1
  ·subst h1
   rw [if_neg (by decide), if_neg (by decide), Ods.rng]
   rw [if_pos rfl] at hr hr'
   simp only [Bool.and_eq_true, decide_eq_true_eq] at hr hr'
   omega
  ·rw [if_neg h1] at hf hf' hr hr'
   by_cases h2 : k = 2 ∨ k = 3
   ·rw [if_pos h2] at hf hf'
    simp only [Bool.and_eq_true] at hf hf'
    have h := odsOfs_rng n m ps ps' hs hf.2 hf'.2 hr hr'
    rcases h2 with rfl | rfl
    ·rw [if_pos rfl, Ods.rng]; exact h
    ·rw [if_neg (by decide), if_pos rfl, Ods.rng]; exact h
   ·rw [if_neg h2] at hf; cases hf
theorem odsOfs_rng (n m : Nat) : ∀ (ps ps' : List Ord), Ord.shps ps ps' = true → Ord.forms ps = true → Ord.forms ps' = true → Ord.rngs 0 ((n : Int) - 1) ps = true → Ord.rngs 0 ((m : Int) - 1) ps' = true → Ods.rngs n m (odsOfs ps ps')
 | a :: r, b :: r', hs, hf, hf', hr, hr' => by
  rw [Ord.shps, Bool.and_eq_true] at hs
  rw [Ord.forms, Bool.and_eq_true] at hf hf'
  rw [Ord.rngs, Bool.and_eq_true] at hr hr'
  rw [odsOfs, Ods.rngs]
  exact ⟨odsOf_rng n m a b hs.1 hf.1 hf'.1 hr.1 hr'.1, odsOfs_rng n m r r' hs.2 hf.2 hf'.2 hr.2 hr'.2⟩
 | [], _, _, _, _, _, _ => by rw [odsOfs, Ods.rngs]; trivial
 | _ :: _, [], _, _, _, _, _ => by rw [odsOfs, Ods.rngs]; trivial
end
theorem vld_zero {o : Ord} {n : Int} (h : o.vld n = 0) : o.size ≤ 64 ∧ o.form = true ∧ o.rng 0 (n - 1) = true := by
 rw [Ord.vld] at h
 split at h
 ·cases h
 ·rename_i h1
  split at h
  ·cases h
  ·rename_i h2
   refine ⟨?_, ?_, ?_⟩
   ·by_cases h3 : 64 < o.size
    ·exact absurd (.inl h3) h1
    ·omega
   ·cases hf : o.form
    ·exact absurd (.inr hf) h1
    ·rfl
   ·cases hf : o.rng 0 (n - 1)
    ·exact absurd hf h2
    ·rfl
theorem chkF_zero {fs : List Fact} {o p : Ord} {ts us : List Raw} (h : chkF fs o p ts us = 0) : firstE (flat fs ++ ts ++ us) = 0 ∧ allO (flat fs ++ ts ++ us) = true ∧ o.vld ts.length = 0 ∧ p.vld us.length = 0 ∧ o.shp p = true := by
 rw [chkF] at h
 split at h
 ·rename_i h1; exact absurd h h1
 ·rename_i h1
  split at h
  ·cases h
  ·rename_i h2
   split at h
   ·rename_i h3; exact absurd h h3
   ·rename_i h3
    split at h
    ·rename_i h4; exact absurd h h4
    ·rename_i h4
     split at h
     ·cases h
     ·rename_i h5
      refine ⟨by omega, ?_, by omega, by omega, ?_⟩
      ·cases hh : allO (flat fs ++ ts ++ us)
       ·exact absurd hh h2
       ·rfl
      ·cases hh : o.shp p
       ·exact absurd hh h5
       ·rfl
end Lfc
namespace Go.Proofs.YtadjpadieljjlaaGreat
open Go.RowKit Go.Maps
structure QuO (w : World) (fs : List Lfc.Fact) (F : Option Addr) (o p : Lfc.Ord) (vo vp : Value) (ts us : List Lfc.Raw) (L R : Option Addr) (cl cr : Nat) (ks : List Int) (A0 : Option Addr) : Prop where
 fl : fs.length ≤ 64
 rl : ∀ f ∈ fs, f.rel = 1 ∨ f.rel = 2 ∨ f.rel = 3
 fz : ∀ f ∈ fs, f.l.size ≤ 1000000 ∧ f.r.size ≤ 1000000
 fs : FactsP (fun _ => True) w F fs
 os : o.size ≤ 1000
 ps : p.size ≤ 1000
 vo : OrdV w o vo
 vp : OrdV w p vp
 n : ts.length ≤ 1000
 m : us.length ≤ 1000
 st : ∀ t ∈ ts ++ us, t.size ≤ 1000000
 l : L = none → ts.length = 0 ∧ cl = 0
 r : R = none → us.length = 0 ∧ cr = 0
 ts : TreesAt w L ts
 us : TreesAt w R us
 kl : ks.length ≤ 1000000
 ks : IntsP (fun _ => True) w A0 ks
theorem QuO.below {w w' : World} {fs : List Lfc.Fact} {F : Option Addr} {o p : Lfc.Ord} {vo vp : Value} {ts us : List Lfc.Raw} {L R : Option Addr} {cl cr : Nat} {ks : List Int} {A0 : Option Addr} (h : QuO w fs F o p vo vp ts us L R cl cr ks A0) (hb : Below w.heap.size w w') : QuO w' fs F o p vo vp ts us L R cl cr ks A0 :=
 ⟨h.fl, h.rl, h.fz, h.fs.below hb, h.os, h.ps, h.vo.below hb, h.vp.below hb, h.n, h.m, h.st, h.l, h.r, h.ts.below hb, h.us.below hb, h.kl, h.ks.keep (fun b _ hlt => hb.block b hlt) hb.size (fun _ _ h => h)⟩
theorem TreesAt.toP {w : World} {A : Option Addr} {ts : List Lfc.Raw} (h : TreesAt w A ts) : TreesAtP (fun b => b < w.heap.size) w A ts := fun hne => by
 obtain ⟨b, o, hA, hb, hts⟩ := h hne
 exact ⟨b, o, hA, hb, hb, TreesO.toP (q := fun b => b < w.heap.size) (fun _ h => h) ts b o hts⟩
theorem QuO.prover {w w1 : World} {fs : List Lfc.Fact} {F : Option Addr} {o p : Lfc.Ord} {vo vp : Value} {ts us : List Lfc.Raw} {L R : Option Addr} {cl cr f0 c0 : Nat} {ks : List Int} {A0 : Option Addr} {Bx Mb : Nat} (h : QuO w fs F o p vo vp ts us L R cl cr ks A0) (hb : Below w.heap.size w w1) (hM : w.heap.size ≤ Mb) (hne : Bx ≠ Mb)
  (hq : w1.heap[Bx]? = some (.cells #[.slice F fs.length f0, .slice A0 ks.length c0, .slice L ts.length cl, .slice R us.length cr, .map (some Mb)] 85 (0, 0))) : PvO w1 Bx Mb F A0 L R f0 c0 cl cr fs ks ts us :=
 ⟨lt_of_block hq, hne, Lib.cell_of_heap hq 0, Lib.cell_of_heap hq 1, Lib.cell_of_heap hq 2, Lib.cell_of_heap hq 3, Lib.cell_of_heap hq 4,
  h.fs.keep (fun b _ hlt => hb.block b hlt) hb.size (fun b hlt _ => by omega), h.ks.keep (fun b _ hlt => hb.block b hlt) hb.size (fun b hlt _ => by omega),
  h.ts.toP.keep (fun b _ hlt => hb.block b hlt) hb.size (fun b hlt _ => by omega), h.us.toP.keep (fun b _ hlt => hb.block b hlt) hb.size (fun b hlt _ => by omega)⟩
def PrvF (w : World) (r : Prop) (e : Ending) (w' : World) : Prop := (∃ (ix : Int) (A A1 A2 : Option Addr) (n n1 n2 c c1 c2 : Nat) (b : Bool), e = .returned (.tuple #[.agg #[.int .i64 ix, .slice A n c, .slice A1 n1 c1, .slice A2 n2 c2], .bool b]) ∧ (b = true ↔ r)) ∧ Below w.heap.size w w'
theorem relIs_of {ks : List Int} {fs : List Lfc.Fact} {ts us : List Lfc.Raw} {p : Lfc.Ods} {rel : Int} (h : rel = 1 ∨ rel = 2 ∨ rel = 3) : RelIs (Lfc.chF ks fs ts us 2) (Lfc.chF ks fs ts us 1) (Lfc.chB ks fs ts us) p rel (Lfc.rels ks fs ts us p rel) := by
 rcases h with rfl | rfl | rfl
 ·exact .inl ⟨rfl, by simp [Lfc.rels]⟩
 ·exact .inr (.inl ⟨rfl, by simp [Lfc.rels]⟩)
 ·exact .inr (.inr ⟨rfl, by simp [Lfc.rels]⟩)
set_option maxRecDepth 100000 in
set_option maxHeartbeats 8000000 in
theorem oProveF_any (fs : List Lfc.Fact) (F : Option Addr) (o p : Lfc.Ord) (vo vp : Value) (ts us : List Lfc.Raw) (L R : Option Addr) (f0 cl cr c0 : Nat) (ks : List Int) (A0 : Option Addr) (rel : Int) (w : World) (hQ : QuO w fs F o p vo vp ts us L R cl cr ks A0) (hrel : rel = 1 ∨ rel = 2 ∨ rel = 3) :
  Calls Tryz.prog 11 #[.slice F fs.length f0, .int .i64 rel, vo, .slice L ts.length cl, vp, .slice R us.length cr, .slice A0 ks.length c0] w (PrvF w (Lfc.hldF ks fs o p ts us rel)) := by
 have hvo := hQ.vo
 have hvp := hQ.vp
 obtain ⟨A1, c1, k1, a1, l1, rfl⟩ : ∃ A c kd ar n, vo = .agg #[.int .i64 kd, .int .i64 ar, .slice A n c] := by
  obtain ⟨kd, ar, ts⟩ := o
  obtain ⟨A, c, rfl, hc, hA⟩ := hvo.open_
  exact ⟨A, c, kd, ar, _, rfl⟩
 obtain ⟨A2, c2, k2, a2, l2, rfl⟩ : ∃ A c kd ar n, vp = .agg #[.int .i64 kd, .int .i64 ar, .slice A n c] := by
  obtain ⟨kd, ar, ts⟩ := p
  obtain ⟨A, c, rfl, hc, hA⟩ := hvp.open_
  exact ⟨A, c, kd, ar, _, rfl⟩
 obtain ⟨w1, hw1⟩ : ∃ w1, w.alloc (.cells #[.int .i64 k1, .int .i64 a1, .slice A1 l1 c1] 26) = w1 := ⟨_, rfl⟩
 obtain ⟨w2, hw2⟩ : ∃ w2, w1.alloc (.cells #[.int .i64 k2, .int .i64 a2, .slice A2 l2 c2] 26) = w2 := ⟨_, rfl⟩
 obtain ⟨w3, hw3⟩ : ∃ w3, w2.alloc (.cells #[.int .i64 0, .slice none 0 0, .slice none 0 0, .slice none 0 0] 39) = w3 := ⟨_, rfl⟩
 have b1 : Below w.heap.size w w1 := by rw [← hw1]; exact (Below.refl _ _).alloc (Nat.le_refl _) _
 have b2 : Below w1.heap.size w1 w2 := by rw [← hw2]; exact (Below.refl _ _).alloc (Nat.le_refl _) _
 have b3 : Below w2.heap.size w2 w3 := by rw [← hw3]; exact (Below.refl _ _).alloc (Nat.le_refl _) _
 have q1 : w1.heap[w.heap.size]? = some (.cells #[.int .i64 k1, .int .i64 a1, .slice A1 l1 c1] 26 (0, 0)) := by rw [← hw1]; exact heap_alloc_new _ _
 have q2 : w2.heap[w1.heap.size]? = some (.cells #[.int .i64 k2, .int .i64 a2, .slice A2 l2 c2] 26 (0, 0)) := by rw [← hw2]; exact heap_alloc_new _ _
 have q3 : w3.heap[w2.heap.size]? = some (.cells #[.int .i64 0, .slice none 0 0, .slice none 0 0, .slice none 0 0] 39 (0, 0)) := by rw [← hw3]; exact heap_alloc_new _ _
 have e1 := lt_of_block q1
 have e2 := lt_of_block q2
 have e3 := lt_of_block q3
 have b03 : Below w.heap.size w w3 := (b1.trans (b2.mono (by omega))).trans (b3.mono (by omega))
 have Q1 := Lib.hid ((b3.block _ (by omega)).trans ((b2.block _ e1).trans q1))
 have Q2 := Lib.hid ((b3.block _ e2).trans q2)
 have Q3 := Lib.hid q3
 have B03 := Lib.hid b03
 have s03 : w.heap.size ≤ w3.heap.size := by omega
 obtain ⟨y0, y1, y2⟩ := cells3o Q1.out
 obtain ⟨z0, z1, z2⟩ := cells3o Q2.out
 have hQ3 := hQ.below b03
 have CK := Lib.hid (oCheckF_any (fun _ => True) fs F f0 rel o p _ _ ts us L R cl cr w3 hQ.fl hQ3.fs hQ.rl hQ.fz hrel (by have := hQ.os; omega) (by have := hQ.ps; omega) hQ3.vo hQ3.vp hQ.n hQ.m hQ.st hQ.l hQ.r hQ3.ts hQ3.us)
 have HQ := Lib.hid hQ
 have HQ3 := Lib.hid hQ3
 have HREL := Lib.hid hrel
 obtain ⟨res, hres⟩ : ∃ res, Lfc.hldF ks fs o p ts us rel = res := ⟨_, rfl⟩
 have HRES := Lib.hid hres
 rw [hres]
 obtain ⟨z, hz⟩ : ∃ z, Lfc.chkF fs o p ts us = z := ⟨_, rfl⟩
 have HZC := Lib.hid hz
 rw [hz] at CK
 obtain ⟨n, hnn⟩ : ∃ n, ts.length = n := ⟨_, rfl⟩
 obtain ⟨m, hmm⟩ : ∃ m, us.length = m := ⟨_, rfl⟩
 obtain ⟨nf, hnf⟩ : ∃ nf, fs.length = nf := ⟨_, rfl⟩
 obtain ⟨nk, hnk⟩ : ∃ nk, ks.length = nk := ⟨_, rfl⟩
 have HNM := Lib.hid (And.intro hnn (And.intro hmm (And.intro hnf hnk)))
 rw [hnn, hnf] at CK ⊢
 rw [hmm] at CK ⊢
 rw [hnk]
 clear hres hz hnn hmm hnf hnk hQ hQ3 hvo hvp hrel b1 b2 b3 q1 q2 q3 b03
 by_cases hz0 : z = 0
 ·have hmk : ∀ W : World, (Instr.makeMap 83 none).run Tryz.prog W = .ok (.map (some W.heap.size)) (W.alloc (.map #[] 0)) := fun W => rfl
  have HC0 := Lib.hid (Lfc.chkF_zero (HZC.out.trans hz0))
  have HRR : Hid (res ↔ Lfc.rels ks fs ts us (Lfc.odsOf o p) rel) := Lib.hid (by
   rw [← HRES.out, Lfc.hldF]
   exact ⟨fun h => h.2, fun h => ⟨HZC.out.trans hz0, h⟩⟩)
  subst hz0
  go_enter Tryz.func11, Tryz.ntmps11
  go_wp2_with fail
  refine CK.out.mono ?_
  rintro e w4 ⟨rfl, b4⟩
  clear hw1 hw2 hw3 CK
  obtain ⟨w5, hw5⟩ : ∃ w5, w4.alloc (.map #[] 0) = w5 := ⟨_, rfl⟩
  obtain ⟨w6, hw6⟩ : ∃ w6, w5.alloc (.cells #[.slice F nf f0, .slice A0 nk c0, .slice L n cl, .slice R m cr, .map (some w4.heap.size)] 85) = w6 := ⟨_, rfl⟩
  have b5 : Below w4.heap.size w4 w5 := by rw [← hw5]; exact (Below.refl _ _).alloc (Nat.le_refl _) _
  have l5 : w4.heap.size < w5.heap.size := by rw [← hw5]; simp
  have b6 : Below w5.heap.size w5 w6 := by rw [← hw6]; exact (Below.refl _ _).alloc (Nat.le_refl _) _
  have q6 : w6.heap[w5.heap.size]? = some (.cells #[.slice F nf f0, .slice A0 nk c0, .slice L n cl, .slice R m cr, .map (some w4.heap.size)] 85 (0, 0)) := by rw [← hw6]; exact heap_alloc_new _ _
  have l6 := lt_of_block q6
  have b36 : Below w3.heap.size w3 w6 := b4.trans ((b5.trans (b6.mono b5.size)).mono b4.size)
  have s4 := b4.size
  have C6 : Hid (Cache ks fs w4.heap.size (fun b => b ≠ w4.heap.size) w6) := Lib.hid (by
   have h : Cache ks fs w4.heap.size (fun b => b ≠ w4.heap.size) w5 := by rw [← hw5]; exact EMap.made w4 _ _
   exact h.below b6)
  have hP6 : Hid (PvO w6 w5.heap.size w4.heap.size F A0 L R f0 c0 cl cr fs ks ts us) := Lib.hid (HQ3.out.prover b36 (by omega) (by omega) (by rw [HNM.out.1, HNM.out.2.1, HNM.out.2.2.1, HNM.out.2.2.2]; exact q6))
  have B36 := Lib.hid b36
  clear y0 y1 y2 z0 z1 z2
  obtain ⟨y0, y1, y2⟩ := cells3o ((b36.block _ (by omega)).trans Q1.out)
  obtain ⟨z0, z1, z2⟩ := cells3o ((b36.block _ (by omega)).trans Q2.out)
  obtain ⟨v1, v2, v3⟩ := Lfc.vld_zero HC0.out.2.2.1
  obtain ⟨v4, v5, v6⟩ := Lfc.vld_zero HC0.out.2.2.2.1
  have hQ6 := HQ3.out.below b36
  have CB := Lib.hid (oBoth_upto 1000 (by omega) _ _ o p _ _ w6 hQ6.os HC0.out.2.2.2.2 v2 v5 v3 v6 hQ6.vo hQ6.vp)
  have HRG : Hid ((Lfc.odsOf o p).rng ts.length us.length ∧ (Lfc.odsOf o p).size ≤ 1000) := Lib.hid ⟨Lfc.odsOf_rng _ _ o p HC0.out.2.2.2.2 v2 v5 v3 v6, by have := Lfc.odsOf_size o p; omega⟩
  clear b4 b5 b6 q6 b36 v1 v2 v3 v4 v5 v6 hQ6
  go_wp2_with fail
  refine CB.out.mono ?_
  rintro e w7 ⟨⟨T, a, rfl, hods⟩, b7⟩
  have hods7 : OdsP (fun b => b ≠ w4.heap.size) w7 (Lfc.odsOf o p) (.iface T a) := OdsP.keep (fun _ _ _ => rfl) (Nat.le_refl _) (fun b _ hb => by have hb : w6.heap.size ≤ b := hb; omega) _ _ hods
  have C7 := C6.out.below b7
  have hP7 := hP6.out.oth (Oth.of_below b7)
  obtain ⟨T', a', f, g, he, hme, hmw, ⟨hcf, hcg⟩, hcan⟩ := odsCan w5.heap.size w4.heap.size F A0 L R f0 c0 cl cr fs ks ts us HQ.out.kl (by have := HQ.out.fl; omega) HQ.out.fz (fun t ht => HQ.out.st t (List.mem_append_left _ ht)) (fun t ht => HQ.out.st t (List.mem_append_right _ ht)) (by have := HQ.out.n; omega) (by have := HQ.out.m; omega) 1000 (by omega) _ _ w7 HRG.out.2 HRG.out.1 hP7 hods7
  injection he with he1 he2
  subst he1 he2
  have CP := Lib.hid ((hcan w7 (fun b => b ≠ w4.heap.size) (Oth.refl _ _) C7 (fun b hb => by have := b7.size; omega) (fun _ h => h)).1 rel _ (relIs_of HREL.out))
  have B37 := Lib.hid (B36.out.trans (b7.mono B36.out.size))
  clear b7 y0 y1 y2 z0 z1 z2 CB hw5 hw6 hods hods7 C7 hP7 hmw hcg hcan
  go_wp2_with fail
  refine CP.out.mono ?_
  rintro e w8 ⟨⟨pf, ix, A, A1, A2, n9, n1, n2, c, c1, c2, bz, rfl, hpf, hpz, hb⟩, hC8, ho8⟩
  have b38 : Below w3.heap.size w3 w8 := by
   have h := B37.out
   exact ⟨ho8.os.trans h.os, ho8.tape.trans h.tape, ho8.output.trans h.output, Nat.le_trans h.size ho8.size, fun b hb => (ho8.block b (Nat.lt_of_lt_of_le hb h.size) (fun e => by have := Option.some.inj e; omega)).trans (h.block b hb)⟩
  obtain ⟨w9, hw9⟩ : ∃ w9, w8.alloc (.cells #[.int .i64 ix, .slice A n9 c, .slice A1 n1 c1, .slice A2 n2 c2] 39) = w9 := ⟨_, rfl⟩
  have b9 : Below w8.heap.size w8 w9 := by rw [← hw9]; exact (Below.refl _ _).alloc (Nat.le_refl _) _
  have q9 : w9.heap[w8.heap.size]? = some (.cells #[.int .i64 ix, .slice A n9 c, .slice A1 n1 c1, .slice A2 n2 c2] 39 (0, 0)) := by rw [← hw9]; exact heap_alloc_new _ _
  have b39 := b38.trans (b9.mono b38.size)
  have HW9 := Lib.hid hw9
  have HB := Lib.hid hb
  cases bz with
  | false =>
   obtain ⟨s1, s2, s3, s4, h1, h2, h3, h4, ⟨c0', c1', c2', c3'⟩, ⟨t0, t1, t2, t3⟩, hq, ho⟩ := put4 ((b39.block _ e3).trans Q3.out) (.int .i64 0) (.slice none 0 0) (.slice none 0 0) (.slice none 0 0)
   have HQ9 := Lib.hid hq
   have HZ : Hid (PrvF w res (.returned (.tuple #[.agg #[.int .i64 0, .slice none 0 0, .slice none 0 0, .slice none 0 0], .bool false])) s4) := Lib.hid ⟨⟨0, none, none, none, 0, 0, 0, 0, 0, 0, false, rfl, fun h => (by cases h), fun h => by have := HB.out.2 (HRR.out.1 h); cases this⟩, Oth.below (B03.out.trans (b39.mono s03)) ho (by omega) (Nat.le_trans s03 b39.size)⟩
   clear hq ho b9 b39 b38 CP hw9 hpf hpz hb hC8 ho8 q9
   go_upto_region 5 with fail
   rw [HW9.out]
   go_wp2_with fail
   refine bodyPost_ret (results_proof2 rfl _ _ _ _ _ _ _ rfl HQ9.out) rfl ?_
   exact HZ.out
  | true =>
   obtain ⟨x0, x1, x2, x3⟩ := cells4v q9
   have CC := Lib.hid (oCopiedF_upto 2000 (by omega) pf (fun b => b ≠ w4.heap.size) ix A A1 A2 n9 n1 n2 c c1 c2 w9 (by have := HRG.out.2; omega) (PfP.keep (fun b _ hlt => b9.block b hlt) b9.size (fun _ _ h => h) _ _ _ _ _ hpf))
   have B39 := Lib.hid b39
   clear b9 b39 b38 CP hw9 hpf hpz hb hC8 ho8 q9
   go_upto_region 5 with fail
   rw [HW9.out]
   go_wp2_with fail
   refine CC.out.mono ?_
   rintro e w10 ⟨⟨ix', A', A1', A2', m0, m1, m2, d, d1, d2, rfl⟩, b10⟩
   have b3a := B39.out.trans (b10.mono B39.out.size)
   obtain ⟨s1, s2, s3, s4, h1, h2, h3, h4, ⟨c0', c1', c2', c3'⟩, ⟨t0, t1, t2, t3⟩, hq, ho⟩ := put4 ((b3a.block _ e3).trans Q3.out) (.int .i64 ix') (.slice A' m0 d) (.slice A1' m1 d1) (.slice A2' m2 d2)
   have HQ9 := Lib.hid hq
   have HZ : Hid (PrvF w res (.returned (.tuple #[.agg #[.int .i64 ix', .slice A' m0 d, .slice A1' m1 d1, .slice A2' m2 d2], .bool true])) s4) := Lib.hid ⟨⟨ix', A', A1', A2', m0, m1, m2, d, d1, d2, true, rfl, fun _ => HRR.out.2 (HB.out.1 (by simp)), fun _ => rfl⟩, Oth.below (B03.out.trans (b3a.mono s03)) ho (by omega) (Nat.le_trans s03 b3a.size)⟩
   clear hq ho b3a b10 CC x0 x1 x2 x3 HW9
   go_wp2_with fail
   refine bodyPost_ret (results_proof2 rfl _ _ _ _ _ _ _ rfl HQ9.out) rfl ?_
   exact HZ.out
 ·have HNR : Hid (¬ res) := Lib.hid (by rw [← HRES.out, Lfc.hldF]; exact fun h => hz0 (HZC.out.symm.trans h.1))
  have hz1 : (z == 0) = false := by simpa using hz0
  have hz2 : (z != 0) = true := by simpa using hz0
  have hz3 : decide (z = 0) = false := by simpa using hz0
  clear hz0
  go_enter Tryz.func11, Tryz.ntmps11
  go_wp2_with fail
  refine CK.out.mono ?_
  rintro e w4 ⟨rfl, b4⟩
  obtain ⟨s1, s2, s3, s4, h1, h2, h3, h4, ⟨c0', c1', c2', c3'⟩, ⟨t0, t1, t2, t3⟩, hq, ho⟩ := put4 ((b4.block _ e3).trans Q3.out) (.int .i64 0) (.slice none 0 0) (.slice none 0 0) (.slice none 0 0)
  have HQ9 := Lib.hid hq
  have HZ : Hid (PrvF w res (.returned (.tuple #[.agg #[.int .i64 0, .slice none 0 0, .slice none 0 0, .slice none 0 0], .bool false])) s4) := Lib.hid ⟨⟨0, none, none, none, 0, 0, 0, 0, 0, 0, false, rfl, fun h => (by cases h), fun h => absurd h HNR.out⟩, Oth.below (B03.out.trans (b4.mono s03)) ho (by omega) (Nat.le_trans s03 b4.size)⟩
  clear hq ho b4 y0 y1 y2 z0 z1 z2 CK
  go_wp2_with fail
  refine bodyPost_ret (results_proof2 rfl _ _ _ _ _ _ _ rfl HQ9.out) rfl ?_
  exact HZ.out
end Go.Proofs.YtadjpadieljjlaaGreat
namespace Go.Proofs.YtadjpadieljjlaaGreat
open Go.RowKit Go.Maps
def HldF (w : World) (z : Int) (r : Prop) (e : Ending) (w' : World) : Prop := (∃ b : Bool, e = .returned (.tuple #[.bool b, .int .i64 z]) ∧ (b = true ↔ r)) ∧ Below w.heap.size w w'
set_option maxRecDepth 100000 in
set_option maxHeartbeats 8000000 in
theorem oHoldsF_any (fs : List Lfc.Fact) (F : Option Addr) (o p : Lfc.Ord) (vo vp : Value) (ts us : List Lfc.Raw) (L R : Option Addr) (f0 cl cr c0 : Nat) (ks : List Int) (A0 : Option Addr) (rel : Int) (w : World) (hQ : QuO w fs F o p vo vp ts us L R cl cr ks A0) (hrel : rel = 1 ∨ rel = 2 ∨ rel = 3) :
  Calls Tryz.prog 16 #[.slice F fs.length f0, .int .i64 rel, vo, .slice L ts.length cl, vp, .slice R us.length cr, .slice A0 ks.length c0] w (HldF w (Lfc.chkF fs o p ts us) (Lfc.hldF ks fs o p ts us rel)) := by
 have hvo := hQ.vo
 have hvp := hQ.vp
 obtain ⟨A1, c1, k1, a1, l1, rfl⟩ : ∃ A c kd ar n, vo = .agg #[.int .i64 kd, .int .i64 ar, .slice A n c] := by
  obtain ⟨kd, ar, ts⟩ := o
  obtain ⟨A, c, rfl, hc, hA⟩ := hvo.open_
  exact ⟨A, c, kd, ar, _, rfl⟩
 obtain ⟨A2, c2, k2, a2, l2, rfl⟩ : ∃ A c kd ar n, vp = .agg #[.int .i64 kd, .int .i64 ar, .slice A n c] := by
  obtain ⟨kd, ar, ts⟩ := p
  obtain ⟨A, c, rfl, hc, hA⟩ := hvp.open_
  exact ⟨A, c, kd, ar, _, rfl⟩
 obtain ⟨w1, hw1⟩ : ∃ w1, w.alloc (.cells #[.int .i64 k1, .int .i64 a1, .slice A1 l1 c1] 26) = w1 := ⟨_, rfl⟩
 obtain ⟨w2, hw2⟩ : ∃ w2, w1.alloc (.cells #[.int .i64 k2, .int .i64 a2, .slice A2 l2 c2] 26) = w2 := ⟨_, rfl⟩
 have b1 : Below w.heap.size w w1 := by rw [← hw1]; exact (Below.refl _ _).alloc (Nat.le_refl _) _
 have b2 : Below w1.heap.size w1 w2 := by rw [← hw2]; exact (Below.refl _ _).alloc (Nat.le_refl _) _
 have q1 : w1.heap[w.heap.size]? = some (.cells #[.int .i64 k1, .int .i64 a1, .slice A1 l1 c1] 26 (0, 0)) := by rw [← hw1]; exact heap_alloc_new _ _
 have q2 : w2.heap[w1.heap.size]? = some (.cells #[.int .i64 k2, .int .i64 a2, .slice A2 l2 c2] 26 (0, 0)) := by rw [← hw2]; exact heap_alloc_new _ _
 have e1 := lt_of_block q1
 have e2 := lt_of_block q2
 have b02 : Below w.heap.size w w2 := b1.trans (b2.mono (by omega))
 have Q1 := Lib.hid ((b2.block _ e1).trans q1)
 have Q2 := Lib.hid q2
 have B02 := Lib.hid b02
 have s02 : w.heap.size ≤ w2.heap.size := by omega
 obtain ⟨y0, y1, y2⟩ := cells3o Q1.out
 obtain ⟨z0, z1, z2⟩ := cells3o Q2.out
 have hQ2 := hQ.below b02
 have CK := Lib.hid (oCheckF_any (fun _ => True) fs F f0 rel o p _ _ ts us L R cl cr w2 hQ.fl hQ2.fs hQ.rl hQ.fz hrel (by have := hQ.os; omega) (by have := hQ.ps; omega) hQ2.vo hQ2.vp hQ.n hQ.m hQ.st hQ.l hQ.r hQ2.ts hQ2.us)
 have CP : Hid (∀ W, Below w2.heap.size w2 W → Calls Tryz.prog 11 #[.slice F fs.length f0, .int .i64 rel, .agg #[.int .i64 k1, .int .i64 a1, .slice A1 l1 c1], .slice L ts.length cl, .agg #[.int .i64 k2, .int .i64 a2, .slice A2 l2 c2], .slice R us.length cr, .slice A0 ks.length c0] W (PrvF W (Lfc.hldF ks fs o p ts us rel))) := Lib.hid (fun W hW => oProveF_any fs F o p _ _ ts us L R f0 cl cr c0 ks A0 rel W (hQ2.below hW) hrel)
 have HNO : Hid (Lfc.chkF fs o p ts us ≠ 0 → ¬ Lfc.hldF ks fs o p ts us rel) := Lib.hid (fun h h' => h h'.1)
 obtain ⟨res, hres⟩ : ∃ res, Lfc.hldF ks fs o p ts us rel = res := ⟨_, rfl⟩
 rw [hres] at CP HNO ⊢
 obtain ⟨z, hz⟩ : ∃ z, Lfc.chkF fs o p ts us = z := ⟨_, rfl⟩
 rw [hz] at CK HNO ⊢
 obtain ⟨n, hnn⟩ : ∃ n, ts.length = n := ⟨_, rfl⟩
 obtain ⟨m, hmm⟩ : ∃ m, us.length = m := ⟨_, rfl⟩
 obtain ⟨nf, hnf⟩ : ∃ nf, fs.length = nf := ⟨_, rfl⟩
 obtain ⟨nk, hnk⟩ : ∃ nk, ks.length = nk := ⟨_, rfl⟩
 rw [hnn, hnf] at CK CP ⊢
 rw [hmm] at CK CP ⊢
 rw [hnk] at CP ⊢
 clear hz hres hQ hQ2 hvo hvp hrel b1 b2 q1 q2 b02 hnn hmm hnf hnk
 by_cases hz0 : z = 0
 ·subst hz0
  clear HNO
  go_enter Tryz.func16, Tryz.ntmps16
  go_wp2_with fail
  refine CK.out.mono ?_
  rintro e w4 ⟨rfl, b4⟩
  clear hw1 hw2 CK y0 y1 y2 z0 z1 z2
  obtain ⟨y0, y1, y2⟩ := cells3o ((b4.block _ (by omega)).trans Q1.out)
  obtain ⟨z0, z1, z2⟩ := cells3o ((b4.block _ (by omega)).trans Q2.out)
  have CPW := Lib.hid (CP.out _ b4)
  have B4 := Lib.hid b4
  clear b4 CP
  go_wp2_with fail
  refine CPW.out.mono ?_
  rintro e w5 ⟨⟨ix, A, A1', A2', n0, n1, n2, c, c1', c2', b, rfl, hb⟩, b5⟩
  have HZ := Lib.hid (B02.out.trans ((B4.out.trans (b5.mono B4.out.size)).mono s02))
  obtain ⟨w6, hw6⟩ : ∃ w6, w5.alloc (.cells #[.int .i64 ix, .slice A n0 c, .slice A1' n1 c1', .slice A2' n2 c2'] 39) = w6 := ⟨_, rfl⟩
  have HW6 := Lib.hid hw6
  have HB := Lib.hid hb
  have HZ6 : Hid (Below w.heap.size w w6) := Lib.hid (by rw [← hw6]; exact HZ.out.alloc HZ.out.size _)
  clear hw6 b5 hb
  go_upto_region 5 with fail
  rw [HW6.out]
  go_wp2_with fail
  refine bodyPost_ret (results_tmp2 rfl _ _ _) rfl ?_
  exact ⟨⟨b, rfl, HB.out⟩, HZ6.out⟩
 ·have hz1 : (z == 0) = false := by simpa using hz0
  have hz2 : (z != 0) = true := by simpa using hz0
  have hz3 : decide (z = 0) = false := by simpa using hz0
  have HRES := Lib.hid (HNO.out hz0)
  clear hz0 HNO CP
  go_enter Tryz.func16, Tryz.ntmps16
  go_wp2_with fail
  refine CK.out.mono ?_
  rintro e w4 ⟨rfl, b4⟩
  have HZ := Lib.hid (B02.out.trans (b4.mono s02))
  clear b4 CK y0 y1 y2 z0 z1 z2
  go_wp2_with fail
  refine bodyPost_ret (results_tmp2 rfl _ _ _) rfl ?_
  exact ⟨⟨false, rfl, fun h => (by cases h), fun h => absurd h HRES.out⟩, HZ.out⟩
end Go.Proofs.YtadjpadieljjlaaGreat
