/- Parts of the proof that no input makes the law false: OcImp1, OcImpW, RowOrderImplies. -/
import Derived.Deep.DeepCutAuto
import Derived.Deep.CutBlock
import Derived.WalkKit
import Derived.Test.YtadjpadieljjlaaGreatTvAB
import Derived.Test.YtadjpadieljjlaaGreatTvAM
import Derived.Test.YtadjpadieljjlaaGreatTvAY
import Derived.Test.YtadjpadieljjlaaGreatTvAZ
import Derived.Test.YtadjpadieljjlaaGreatTvBA
import Derived.Test.YtadjpadieljjlaaGreatTvBB
set_option linter.unusedVariables false
set_option linter.unusedSimpArgs false
namespace Go.Proofs.YtadjpadieljjlaaGreat
open Go.RowKit Go.Maps
theorem slice_pre (F : Option Addr) (nf f0 j : Nat) (h : j ≤ f0) (W : World) : (Instr.slice 23 (.slice F nf f0) none (some (.int .i64 (j : Int))) none).run Tryz.prog W = .ok (.slice F j f0) W := by
 obtain ⟨i0, hi, hz0, hz1, hz2⟩ := info_parts factInfo
 have ht : Tryz.prog.underlying 23 = some (.slice 70) := Tryz.underlying23
 have he : Tryz.prog.elem 23 = 70 := by simp [Program.elem, ht]
 have ht' : Tryz.prog.underlying 23 = some (.slice (Tryz.prog.elem 23)) := by rw [he]; exact ht
 have hs : (Go.sizeOf 70).run Tryz.prog W = .ok 9 W := by simp [sizeOf, typeInfo, hi, hz1]
 rw [run_slice_h W _ F nf f0 ht' .i64 (j : Int) (by omega) (by omega), he, hs]
 have ha : ∀ a : Addr, a.add (0 * 9) = a := fun a => by simp [Addr.add]
 simp only [Result.andThen, sliced, Int.toNat_natCast, Nat.sub_zero]
 cases F with
 | none => simp
 | some a => simp [Addr.add]
def ImpAns (w : World) (r : Prop) (e : Ending) (w' : World) : Prop := (∃ b : Bool, e = .returned (.bool b) ∧ (b = true ↔ r)) ∧ Below w.heap.size w w'
set_option maxRecDepth 100000 in
set_option maxHeartbeats 8000000 in
theorem oImp1_any (fs : List Lfc.Fact) (F : Option Addr) (o p : Lfc.Ord) (f0 : Nat) (rel rq k1 a1 k2 a2 : Int) (A1 A2 F' : Option Addr) (l1 c1 l2 c2 nf' f0' g : Nat) (ts us : List Lfc.Raw) (L R : Option Addr) (cl cr : Nat) (ks : List Int) (A0 : Option Addr) (c0 : Nat) (w : World)
  (hq : w.heap[g]? = some (.cells #[.slice F' nf' f0', .int .i64 rq, .int .i64 k1, .int .i64 a1, .slice A1 l1 c1, .int .i64 k2, .int .i64 a2, .slice A2 l2 c2, .slice L ts.length cl, .slice R us.length cr, .slice A0 ks.length c0] 29 (0, 0)))
  (hQ : QuO w fs F o p (.agg #[.int .i64 k1, .int .i64 a1, .slice A1 l1 c1]) (.agg #[.int .i64 k2, .int .i64 a2, .slice A2 l2 c2]) ts us L R cl cr ks A0) (hrel : rel = 1 ∨ rel = 2 ∨ rel = 3) :
  Calls Tryz.prog 23 #[.slice F fs.length f0, .int .i64 rel, .pointer (some ⟨g, 0, none⟩)] w (ImpAns w (Lfc.hldF ks fs o p ts us rel)) := by
 have CH := Lib.hid (oHoldsF_any fs F o p _ _ ts us L R f0 cl cr c0 ks A0 rel w hQ hrel)
 have HZ : Hid (Lfc.hldF ks fs o p ts us rel → Lfc.chkF fs o p ts us = 0) := Lib.hid (fun h => h.1)
 obtain ⟨res, hres⟩ : ∃ res, Lfc.hldF ks fs o p ts us rel = res := ⟨_, rfl⟩
 obtain ⟨z, hz⟩ : ∃ z, Lfc.chkF fs o p ts us = z := ⟨_, rfl⟩
 rw [hres, hz] at CH HZ
 rw [hres]
 obtain ⟨y0, y1, y2, y3, y4, y5, y6, y7, y8, y9, y10⟩ := cells11q hq
 obtain ⟨n, hn⟩ : ∃ n, ts.length = n := ⟨_, rfl⟩
 obtain ⟨n', hn'⟩ : ∃ n, us.length = n := ⟨_, rfl⟩
 obtain ⟨nf, hnf⟩ : ∃ n, fs.length = n := ⟨_, rfl⟩
 obtain ⟨nk, hnk⟩ : ∃ n, ks.length = n := ⟨_, rfl⟩
 rw [hn, hn', hnf, hnk] at CH
 rw [hn] at y8
 rw [hn'] at y9
 rw [hnk] at y10
 rw [hnf]
 clear hres hz hn hn' hnf hnk hq hQ hrel
 go_enter Tryz.func23, Tryz.ntmps23
 go_wp2_with fail
 refine CH.out.mono ?_
 rintro e w2 ⟨⟨b, rfl, hb⟩, b2⟩
 have HB := Lib.hid hb
 clear y0 y1 y2 y3 y4 y5 y6 y7 y8 y9 y10 hb CH
 cases b with
 | false =>
  go_wp2_with fail
  go_ret
  exact ⟨⟨false, rfl, by have := HB.out; simpa using this⟩, b2⟩
 | true =>
  by_cases hz0 : z = 0
  ·subst hz0
   go_wp2_with fail
   go_ret
   exact ⟨⟨true, rfl, by have := HB.out; simpa using this⟩, b2⟩
  ·have hz1 : (z == 0) = false := by simpa using hz0
   exact absurd (HZ.out (by have := HB.out; simpa using this)) hz0
end Go.Proofs.YtadjpadieljjlaaGreat
namespace Go.Proofs.YtadjpadieljjlaaGreat
open Go.RowKit Go.Maps
attribute [local go_sem ↓] Go.wp_at_zero Go.wp_at_succ
theorem TreesAtP.toAt {q : Nat → Prop} {w : World} {A : Option Addr} {ts : List Lfc.Raw} (h : TreesAtP q w A ts) : TreesAt w A ts := fun hne => by
 obtain ⟨b, o, hA, hlt, hb, h⟩ := h hne
 exact ⟨b, o, hA, hlt, TreesP.toC ts b o h⟩
theorem FactsP.take {q : Nat → Prop} {w : World} {F : Option Addr} {fs : List Lfc.Fact} (j : Nat) (h : FactsP q w F fs) : FactsP q w F (fs.take j) := fun hne => by
 obtain ⟨b, o, hA, hlt, hq, hf⟩ := h (fun e => hne (by rw [e]; simp))
 refine ⟨b, o, hA, hlt, hq, fun i hi => ?_⟩
 have h1 : i < fs.length := by rw [List.length_take] at hi; omega
 have := hf i h1
 rwa [List.getElem_take]
theorem QuP.toO {q : Nat → Prop} {w W : World} {fs : List Lfc.Fact} {F : Option Addr} {o p : Lfc.Ord} {vo vp : Value} {ts us : List Lfc.Raw} {L R : Option Addr} {cl cr : Nat} {ks : List Int} {A0 : Option Addr} (h : QuP q w fs F o p vo vp ts us L R cl cr ks A0) (hb : Below w.heap.size w W) (j : Nat) : QuO W (fs.take j) F o p vo vp ts us L R cl cr ks A0 := by
 have hmem : ∀ f, f ∈ fs.take j → f ∈ fs := fun f hf => List.mem_of_mem_take hf
 have hh := h.keep (q' := fun _ => True) (fun b _ hlt => hb.block b hlt) hb.size (fun _ _ _ => trivial)
 have hn1 := h.n
 have hn2 := h.eq
 have hl := h.fl
 have hk := h.kl
 refine ⟨by rw [List.length_take]; omega, fun f hf => h.rl f (hmem f hf), fun f hf => ?_, hh.ff.take j, by have := h.os; omega, by have := h.ps; omega, hh.vo.toV, hh.vp.toV, by omega, by omega, fun t ht => ?_, h.l, h.r, hh.tt.toAt, hh.uu.toAt, by omega, hh.kk⟩
 ·have := h.gf f (hmem f hf)
  have h2 := this.2.2.1
  omega
 ·rcases List.mem_append.1 ht with h1 | h1
  ·have := h.zt t h1; omega
  ·have := (h.zu t h1).1; omega
set_option maxRecDepth 100000 in
set_option maxHeartbeats 16000000 in
theorem orderImplies_walk (v0 : Value) (zs : List Int) (w : World) (i0 : IntsAt w v0 zs) :
  Calls Tryz.prog 5 #[v0] w fun e w' => e = .returned (.bool true) ∧ Below w.heap.size w w' := by
 obtain ⟨AT, cT, rfl⟩ : ∃ A c, v0 = .slice A zs.length c := by obtain ⟨A, c, h, _⟩ := i0; exact ⟨A, c, h⟩
 obtain ⟨w1, hw1⟩ : ∃ w1, w.alloc (.cells #[.slice AT zs.length cT, .int .i64 0] 33) = w1 := ⟨_, rfl⟩
 have b1 : Below w.heap.size w w1 := by rw [← hw1]; exact (Below.refl _ _).alloc (Nat.le_refl _) _
 have t1 := tape_new2 i0
 rw [hw1] at t1
 have l1' : w.heap.size < w1.heap.size := t1.lt
 have B1 := Lib.hid b1
 have T1 := Lib.hid t1
 clear t1 b1 i0
 go_enter Tryz.func5, Tryz.ntmps5
 go_wp2_with fail
 refine (mAsk_any w.heap.size w1 T1.out).mono ?_
 rintro e w2 ⟨⟨fs, F, f0, rel, o, p, k1, a1, k2, a2, A1, A2, l1, c1, l2, c2, ts, us, L, R, cl, cr, ks, A0, c0, rfl, hrel, hcap, hQ⟩, T2, o2⟩
 obtain ⟨w3, hw3⟩ : ∃ w3, w2.alloc (.cells #[.slice F fs.length f0, .int .i64 rel, .int .i64 k1, .int .i64 a1, .slice A1 l1 c1, .int .i64 k2, .int .i64 a2, .slice A2 l2 c2, .slice L ts.length cl, .slice R us.length cr, .slice A0 ks.length c0] 29) = w3 := ⟨_, rfl⟩
 have b23 : Below w2.heap.size w2 w3 := by rw [← hw3]; exact (Below.refl _ _).alloc (Nat.le_refl _) _
 have q3 : w3.heap[w2.heap.size]? = some (.cells #[.slice F fs.length f0, .int .i64 rel, .int .i64 k1, .int .i64 a1, .slice A1 l1 c1, .int .i64 k2, .int .i64 a2, .slice A2 l2 c2, .slice L ts.length cl, .slice R us.length cr, .slice A0 ks.length c0] 29 (0, 0)) := by rw [← hw3]; exact heap_alloc_new _ _
 have hQ3 := hQ.keep (q' := fun _ => True) (fun b _ hlt => b23.block b hlt) b23.size (fun _ _ _ => trivial)
 have CL := Lib.hid (oLight_any _ fs F o p f0 rel k1 a1 k2 a2 A1 A2 l1 c1 l2 c2 ts us L R cl cr ks A0 c0 w3 hQ3)
 have B3 : Hid (Below w.heap.size w w3) := Lib.hid ((Oth.below B1.out o2 (Nat.le_refl _) (by omega)).trans (b23.mono (by have := o2.size; omega)))
 have CH : Hid (∀ (W : World) (j : Nat) (r : Int), Below w3.heap.size w3 W → j ≤ fs.length → (r = 1 ∨ r = 2 ∨ r = 3) → Calls Tryz.prog 23 #[.slice F j f0, .int .i64 r, .pointer (some ⟨w2.heap.size, 0, none⟩)] W (ImpAns W (Lfc.hldF ks (fs.take j) o p ts us r))) := Lib.hid (fun W j r hb hj hr => by
  have := oImp1_any (fs.take j) F o p f0 r rel k1 a1 k2 a2 A1 A2 F l1 c1 l2 c2 fs.length f0 w2.heap.size ts us L R cl cr ks A0 c0 W ((hb.block _ (lt_of_block q3)).trans q3) (hQ3.toO hb j) hr
  rwa [List.length_take, Nat.min_eq_left hj] at this)
 have PL : Hid (∀ f ∈ fs, (Lfc.good f.l ∨ f.l ∈ ts) ∧ Lfc.good f.r) := Lib.hid (fun f hf => (hQ.gf f hf).2)
 obtain ⟨nf, hnf⟩ : ∃ n, fs.length = n := ⟨_, rfl⟩
 obtain ⟨n, hn⟩ : ∃ n, ts.length = n := ⟨_, rfl⟩
 obtain ⟨n', hn'⟩ : ∃ n, us.length = n := ⟨_, rfl⟩
 obtain ⟨nk, hnk⟩ : ∃ n, ks.length = n := ⟨_, rfl⟩
 have hcap1 := hcap.1
 have hfl := hQ.fl
 have HNF := Lib.hid hnf
 rw [hnf] at CH hcap1 hfl
 rw [hnf, hn, hn', hnk] at CL hw3 q3 ⊢
 have H3 := Lib.hid hw3
 have QC : Hid (∀ W : World, Below w3.heap.size w3 W → W.cell? ⟨w2.heap.size, 0, none⟩ = some (.slice F nf f0)) := Lib.hid (fun W hb => Lib.cell_of_heap ((hb.block _ (lt_of_block q3)).trans q3) 0)
 obtain ⟨y0, y1, y2, y3, y4, y5, y6, y7, y8, y9, y10⟩ := cells11q q3
 have SL : Hid (∀ (j : Nat) (W : World), j ≤ f0 → (Instr.slice 23 (.slice F nf f0) none (some (.int .i64 (j : Int))) none).run Tryz.prog W = .ok (.slice F j f0) W) := Lib.hid (fun j W h => slice_pre F nf f0 j h W)
 have UP : Hid (∀ W, Below w3.heap.size w3 W → Below w.heap.size w W) := Lib.hid (fun W hb => B3.out.trans (hb.mono B3.out.size))
 have aw : ∀ W W', Below w3.heap.size w3 W → Below W.heap.size W W' → Below w3.heap.size w3 W' := fun W W' h h' => h.trans (h'.mono h.size)
 clear hnf hn hn' hnk hcap hQ hQ3 q3 b23 hw3 hw1 T1 T2 o2 B1 B3 hrel
 go_upto_region 2 with fail
 rw [H3.out]
 clear H3
 go_wp2_with fail
 refine CL.out.mono ?_
 rintro e w4 ⟨⟨b, rfl⟩, b4⟩
 clear y0 y1 y2 y3 y4 y5 y6 y7 y8 y9 y10 CL
 cases b with
 | false =>
  go_wp2_with fail
  refine (oAwake_any _).mono ?_
  rintro e w7 ⟨rfl, b7⟩
  go_wp2_with fail
  go_ret
  exact ⟨rfl, UP.out _ (aw _ _ b4 b7)⟩
 | true =>
  have I0 := Lib.hid b4
  clear b4
  go_wp2_with fail
  go_loopw [5] (fun i wr => ∃ j : Nat, j ≤ nf + 1 ∧ i = .int .i64 (j : Int) ∧ Hid (Below w3.heap.size w3 wr)) (fun i _ => nf + 1 - (intOf i).toNat)
  case atStart => exact ⟨0, by omega, rfl, I0⟩
  case round =>
   clear I0
   obtain ⟨j, hj, rfl, HI⟩ := hrel
   have q0 := QC.out _ HI.out
   by_cases hjn : j ≤ nf
   ·have hd1 : decide ((j : Int) ≤ (nf : Int)) = true := by rw [decide_eq_true_eq]; omega
    have hj0 : (0 : Int) ≤ (j : Int) := by omega
    have hsl := fun W => SL.out j W (by omega)
    have WK : Hid ((Lfc.hldF ks (fs.take j) o p ts us 1 → Lfc.hldF ks (fs.take j) o p ts us 2) ∧ (Lfc.hldF ks (fs.take j) o p ts us 3 → Lfc.hldF ks (fs.take j) o p ts us 2)) := Lib.hid ⟨fun h => Lfc.imp_weak (.inl h), fun h => Lfc.imp_weak (.inr h)⟩
    have NO : Hid (j = 0 → ¬ (Lfc.hldF ks (fs.take j) o p ts us 1 ∧ Lfc.hldF ks (fs.take j) o p ts us 3)) := Lib.hid (fun h => by subst h; exact Lfc.imp_not)
    have MO : Hid (∀ m, m + 1 = j → ∀ r, Lfc.hldF ks (fs.take m) o p ts us r → Lfc.hldF ks (fs.take j) o p ts us r) := Lib.hid (fun m h r hh => by
     subst h
     have e : fs.take (m + 1) = fs.take m ++ [fs[m]'(by rw [HNF.out]; omega)] := List.take_succ_eq_append_getElem (by rw [HNF.out]; omega)
     rw [e]
     exact Lfc.imp_more (fun f hf => PL.out f (List.mem_of_mem_take (by rw [e]; exact hf))) hh)
    go_upto_region 8 with fail
    clear q0
    go_cut [6, 7, 8] (fun s6 s7 s8 wx => ∃ b1 b2 b3 : Bool, s6 = .bool b1 ∧ s7 = .bool b2 ∧ s8 = .bool b3 ∧ Hid (((b1 = true ↔ Lfc.hldF ks (fs.take j) o p ts us 1) ∧ (b2 = true ↔ Lfc.hldF ks (fs.take j) o p ts us 3) ∧ (b3 = true ↔ Lfc.hldF ks (fs.take j) o p ts us 2)) ∧ Below w3.heap.size w3 wx))
    case first =>
     have bw0 : Below w3.heap.size w3 wr.drew := HI.out.drew
     refine wp_region_held_drew (S := fun W => Below w3.heap.size w3 W) (by kernel_rfl) ?_ (fun hHeld => ?_)
     ·exact bw0
     refine tk 0 ?_
     refine tk 1 ?_
     refine tk 2 (hy := Or.inl ⟨by rfl, by intro w hSw; (try dsimp only at hSw); have q0 := QC.out w hSw; go_simp; try with_reducible rfl⟩) ?_
     refine tk 3 ?_
     refine tk 4 ?_
     refine tk 6 ?_
     refine tk 7 ?_
     refine tk 8 (hy := Or.inl ⟨by rfl, by intro w hSw; (try dsimp only at hSw); have q0 := QC.out w hSw; go_simp; try with_reducible rfl⟩) ?_
     refine tk 9 ?_
     refine tk 10 ?_
     refine tk 12 ?_
     refine tk 13 ?_
     refine tk 14 (hy := Or.inl ⟨by rfl, by intro w hSw; (try dsimp only at hSw); have q0 := QC.out w hSw; go_simp; try with_reducible rfl⟩) ?_
     refine tk 15 ?_
     refine tk 16 ?_
     refine wpAnyH_ready (rs := [5]) (by kernel_rfl) (by simp) ?_
     refine AllReadyH.cons rfl (fun K hK => ?_) ?_
     ·go_simp
      go_at_call 23
      refine (CH.out _ j 1 bw0 hjn (by decide)).mono ?_
      rintro e wA5 ⟨⟨b1, rfl, hb1⟩, nb1⟩
      have B5 := aw _ _ bw0 nb1
      have Hb1 := Lib.hid hb1
      clear hb1 nb1
      refine hK.out _ _ (B5) (fun hHeld => ?_)
      clear hK K
      refine nrm ?_
      refine wpAnyH_ready (rs := [11]) (by kernel_rfl) (by simp) ?_
      refine AllReadyH.cons rfl (fun K hK => ?_) ?_
      ·go_simp
       go_at_call 23
       refine (CH.out _ j 3 B5 hjn (by decide)).mono ?_
       rintro e wA11 ⟨⟨b2, rfl, hb2⟩, nb2⟩
       have B11 := aw _ _ B5 nb2
       have Hb2 := Lib.hid hb2
       clear hb2 nb2
       refine hK.out _ _ (B11) (fun hHeld => ?_)
       clear hK K
       refine nrm ?_
       refine wpAnyH_ready (rs := [17]) (by kernel_rfl) (by simp) ?_
       refine AllReadyH.cons rfl (fun K hK => ?_) ?_
       ·go_simp
        go_at_call 23
        refine (CH.out _ j 2 B11 hjn (by decide)).mono ?_
        rintro e wA17 ⟨⟨b3, rfl, hb3⟩, nb3⟩
        have B17 := aw _ _ B11 nb3
        have Hb3 := Lib.hid hb3
        clear hb3 nb3
        refine hK.out _ _ (B17) (fun hHeld => ?_)
        clear hK K
        refine nrm ?_
        refine tk 18 ?_
        refine tk 19 ?_
        refine tk 20 ?_
        have HN : Hid (((b1 = true ↔ Lfc.hldF ks (fs.take j) o p ts us 1) ∧ (b2 = true ↔ Lfc.hldF ks (fs.take j) o p ts us 3) ∧ (b3 = true ↔ Lfc.hldF ks (fs.take j) o p ts us 2)) ∧ Below w3.heap.size w3 wA17) := Lib.hid ⟨⟨Hb1.out, Hb2.out, Hb3.out⟩, B17⟩
        refine wpAnyH_done (by kernel_rfl) ?_ _
        go_wp2_with fail
        go_meet
        exact ⟨b1, b2, b3, rfl, rfl, rfl, HN⟩
       exact AllReadyH.nil
      exact AllReadyH.nil
     exact AllReadyH.nil
    case rest =>
     obtain ⟨b1, b2, b3, rfl, rfl, rfl, HBB⟩ := hcut
     have HB := Lib.hid HBB.out.1
     have I1 := Lib.hid HBB.out.2
     have hw1 : b1 = true → b3 = true := fun h => HB.out.2.2.2 (WK.out.1 (HB.out.1.1 h))
     have hw2 : b2 = true → b3 = true := fun h => HB.out.2.2.2 (WK.out.2 (HB.out.2.1.1 h))
     have hno : j = 0 → b1 = true → b2 = true → False := fun h h1 h2 => NO.out h ⟨HB.out.1.1 h1, HB.out.2.1.1 h2⟩
     clear HI HBB WK NO
     go_upto_region 9 with fail
     go_cut [60] (fun s wx => s = .bool false ∧ wx = wc)
     case first =>
      by_cases hjz : j = 0
      ·subst hjz
       have hno' := hno rfl
       clear hno
       cases b1 <;> cases b2 <;> cases b3 <;> first | exact absurd (hw1 rfl) (by decide) | exact absurd (hw2 rfl) (by decide) | exact (hno' rfl rfl).elim | (clear hw1 hw2 hno'; go_wp2_with fail; go_meet; exact ⟨rfl, rfl⟩)
      ·have hjz1 : ((j : Int) == 0) = false := by simp; omega
       have hjz2 : decide ((j : Int) = 0) = false := by rw [decide_eq_false_iff_not]; omega
       clear hno hjz
       cases b1 <;> cases b2 <;> cases b3 <;> first | exact absurd (hw1 rfl) (by decide) | exact absurd (hw2 rfl) (by decide) | (clear hw1 hw2; go_wp2_with fail; go_meet; exact ⟨rfl, rfl⟩)
     case rest =>
      obtain ⟨rfl, rfl⟩ := hcut
      clear hw1 hw2 hno
      go_upto_region 11 with fail
      have q0 := QC.out _ I1.out
      go_cut [101] (fun s wx => s = .bool false ∧ Hid (Below w3.heap.size w3 wx))
      case first =>
       by_cases hjz : j = 0
       ·subst hjz
        have hg0 : decide (((0 : Nat) : Int) > 0) = false := by decide
        clear hsl
        go_wp2_with fail
        go_meet
        exact ⟨rfl, I1⟩
       ·obtain ⟨m, hm⟩ : ∃ m, j - 1 = m := ⟨_, rfl⟩
        have hmw : IntKind.i64.wrap ((j : Int) - 1) = (m : Int) := by rw [IntWalk.i64_in _ (by omega)]; omega
        have hg0 : decide ((j : Int) > 0) = true := by rw [decide_eq_true_eq]; omega
        have hg1 : decide (0 < (j : Int)) = true := by rw [decide_eq_true_eq]; omega
        have hgN : 0 < j := by omega
        have hsm := fun W => SL.out m W (by omega)
        have MORE := Lib.hid (MO.out m (by omega))
        have bwc := I1.out
        clear hsl hjz
        go_wp2_with fail
        refine (CH.out _ m 1 bwc (by omega) (by decide)).mono ?_
        rintro e wp1 ⟨⟨g1, rfl, hg1⟩, ng1⟩
        have bp1 := aw _ _ bwc ng1
        have q0 := QC.out _ bp1
        have hgb1 : g1 = true → b1 = true := fun h => (HB.out.1).2 (MORE.out 1 (hg1.1 h))
        clear hg1 ng1
        cases g1 with
        | false =>
         clear hgb1
         go_wp2_with fail
         refine (CH.out _ m 3 bp1 (by omega) (by decide)).mono ?_
         rintro e wp2 ⟨⟨g2, rfl, hg2⟩, ng2⟩
         have bp2 := aw _ _ bp1 ng2
         have q0 := QC.out _ bp2
         have hgb2 : g2 = true → b2 = true := fun h => (HB.out.2.1).2 (MORE.out 3 (hg2.1 h))
         clear hg2 ng2
         cases g2 with
         | false =>
          clear hgb2
          go_wp2_with fail
          refine (CH.out _ m 2 bp2 (by omega) (by decide)).mono ?_
          rintro e wp3 ⟨⟨g3, rfl, hg3⟩, ng3⟩
          have bp3 := aw _ _ bp2 ng3
          have q0 := QC.out _ bp3
          have hgb3 : g3 = true → b3 = true := fun h => (HB.out.2.2).2 (MORE.out 2 (hg3.1 h))
          clear hg3 ng3
          cases g3 with
          | false =>
           clear hgb3
           go_wp2_with fail
           go_meet
           exact ⟨rfl, Lib.hid bp3⟩
          | true =>
           have hx := hgb3 rfl
           clear hgb3
           subst hx
           go_wp2_with fail
           go_meet
           exact ⟨rfl, Lib.hid bp3⟩
         | true =>
          have hx := hgb2 rfl
          clear hgb2
          subst hx
          go_wp2_with fail
          refine (CH.out _ m 2 bp2 (by omega) (by decide)).mono ?_
          rintro e wp3 ⟨⟨g3, rfl, hg3⟩, ng3⟩
          have bp3 := aw _ _ bp2 ng3
          have q0 := QC.out _ bp3
          have hgb3 : g3 = true → b3 = true := fun h => (HB.out.2.2).2 (MORE.out 2 (hg3.1 h))
          clear hg3 ng3
          cases g3 with
          | false =>
           clear hgb3
           go_wp2_with fail
           go_meet
           exact ⟨rfl, Lib.hid bp3⟩
          | true =>
           have hx := hgb3 rfl
           clear hgb3
           subst hx
           go_wp2_with fail
           go_meet
           exact ⟨rfl, Lib.hid bp3⟩
        | true =>
         have hx := hgb1 rfl
         clear hgb1
         subst hx
         go_wp2_with fail
         refine (CH.out _ m 3 bp1 (by omega) (by decide)).mono ?_
         rintro e wp2 ⟨⟨g2, rfl, hg2⟩, ng2⟩
         have bp2 := aw _ _ bp1 ng2
         have q0 := QC.out _ bp2
         have hgb2 : g2 = true → b2 = true := fun h => (HB.out.2.1).2 (MORE.out 3 (hg2.1 h))
         clear hg2 ng2
         cases g2 with
         | false =>
          clear hgb2
          go_wp2_with fail
          refine (CH.out _ m 2 bp2 (by omega) (by decide)).mono ?_
          rintro e wp3 ⟨⟨g3, rfl, hg3⟩, ng3⟩
          have bp3 := aw _ _ bp2 ng3
          have q0 := QC.out _ bp3
          have hgb3 : g3 = true → b3 = true := fun h => (HB.out.2.2).2 (MORE.out 2 (hg3.1 h))
          clear hg3 ng3
          cases g3 with
          | false =>
           clear hgb3
           go_wp2_with fail
           go_meet
           exact ⟨rfl, Lib.hid bp3⟩
          | true =>
           have hx := hgb3 rfl
           clear hgb3
           subst hx
           go_wp2_with fail
           go_meet
           exact ⟨rfl, Lib.hid bp3⟩
         | true =>
          have hx := hgb2 rfl
          clear hgb2
          subst hx
          go_wp2_with fail
          refine (CH.out _ m 2 bp2 (by omega) (by decide)).mono ?_
          rintro e wp3 ⟨⟨g3, rfl, hg3⟩, ng3⟩
          have bp3 := aw _ _ bp2 ng3
          have q0 := QC.out _ bp3
          have hgb3 : g3 = true → b3 = true := fun h => (HB.out.2.2).2 (MORE.out 2 (hg3.1 h))
          clear hg3 ng3
          cases g3 with
          | false =>
           clear hgb3
           go_wp2_with fail
           go_meet
           exact ⟨rfl, Lib.hid bp3⟩
          | true =>
           have hx := hgb3 rfl
           clear hgb3
           subst hx
           go_wp2_with fail
           go_meet
           exact ⟨rfl, Lib.hid bp3⟩
      case rest =>
       obtain ⟨rfl, I2⟩ := hcut
       clear q0 I1 hsl
       go_wp2_with fail
       go_roundw
       case rel => exact ⟨j + 1, by omega, by go_num, I2⟩
       case measure => simp [intOf]; omega
   ·have hd1 : decide ((j : Int) ≤ (nf : Int)) = false := by rw [decide_eq_false_iff_not]; omega
    go_wp2_with fail
    refine (oAwake_any _).mono ?_
    rintro e w7 ⟨rfl, b7⟩
    go_wp2_with fail
    go_ret
    exact ⟨rfl, UP.out _ (aw _ _ HI.out b7)⟩
end Go.Proofs.YtadjpadieljjlaaGreat
namespace Go.Proofs.YtadjpadieljjlaaGreat.orderImplies
open Go.ChangeShapes Go.WideShapes Go.ChangeAt Go.RowKit
theorem readable : ∀ t ∈ Tryz.f5.params.toList, Tryz.prog.readableRec t = true ∧ t < Tryz.prog.types.size := by
 have h : (Tryz.f5.params.toList.all fun t => Tryz.prog.readableRec t && decide (t < Tryz.prog.types.size)) = true := by kernel_rfl
 intro t ht
 have := List.all_eq_true.1 h t ht
 simp only [Bool.and_eq_true, decide_eq_true_eq] at this
 exact this
set_option maxRecDepth 100000 in
theorem lifted (os : Os) (started : os.Started) (H : Type) (enc : TypeId × Value → H) :
  ReturnsInHanded {} Tryz.checked os 5 .any (Rows.orderImpliesSpec.pre6 enc Tryz.prog Tryz.f5 Rows.orderImpliesRow.domain false) (Rows.orderImpliesSpec.post enc Tryz.prog Tryz.f5 false true false false) := by
 refine returnsInHanded_of_change (C := Tryz.checked) own started (by kernel_rfl) Tryz.func5
  (ChangeSpec.witness6 (enc := enc) (C := Tryz.checked) false ⟨#[], #[.slice none 0 0], []⟩ 8 (by kernel_rfl) (by kernel_rfl) (by kernel_rfl) (by kernel_rfl)) ?_
 intro W base args ds gs before hval0 hW hcnd _
 have hval : ∀ (j : Nat) t v, Tryz.f5.params[j]? = some t → args[j]? = some v → Value.okWide Tryz.prog W .any base t v := hval0
 have hW' := hW
 obtain ⟨p, q, hA0, hV, rfl, hfz, hnd⟩ := hW
 have hA : DataW.TrodAll enc Tryz.prog W 0 (fun _ => true) true Tryz.f5.params.toList args.toList ds p := hA0
 rw [Tryz.params5] at hA hval
 obtain ⟨v0, vs0, d0, ds0, p0, q0, hargs, rfl, rfl, h0, r0⟩ := trodAll_cons hA
 obtain ⟨rfl, rfl, rfl⟩ := trodAll_nil r0
 obtain rfl : args = #[v0] := by cases args; simp_all
 obtain ⟨rfl, rfl⟩ := trodVars_none hV
 obtain ⟨z0, i0⟩ := intsAt_of (hval 0 22 v0 rfl rfl) h0
 clear hA0 hval0
 refine (orderImplies_walk v0 z0 W i0).mono fun e W' ⟨he, hb⟩ => ?_
 subst he
 exact ⟨_, rfl, law_post rfl ⟨rfl, rfl, rfl⟩ rfl readable hW' hb⟩
theorem said : Rows.OrderImpliesSaid :=
 OpenClaim.holds_of_wide 5 Tryz.f5 rfl rfl rfl rfl rfl rfl rfl ⟨rfl, rfl, rfl, rfl, rfl⟩ rfl rfl rfl rfl rfl (by kernel_rfl) Tryz.func5 (by kernel_rfl)
  (of_decide_eq_true (by kernel_rfl)) (by unfold Func.isWrapper; first | (rw [if_pos (by decide +kernel)]; kernel_rfl) | (rw [if_neg (by decide +kernel)]; exact ⟨rfl, rfl⟩))
  (fun os started H enc _ => lifted os started H enc)
end Go.Proofs.YtadjpadieljjlaaGreat.orderImplies
