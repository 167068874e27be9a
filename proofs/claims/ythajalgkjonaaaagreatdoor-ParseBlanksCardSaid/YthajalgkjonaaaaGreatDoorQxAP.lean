/- Parts of the proof that no input makes the law false: PaPar,PaBind. -/
import Derived.Test.YthajalgkjonaaaaGreatDoorQxAO
set_option linter.unusedVariables false
set_option linter.unusedSimpArgs false
namespace Go.Proofs.YthajalgkjonaaaaGreatDoor
open Go.RowKit
def ExprC(p:Lfc.PE)(g:Nat→Lfc.PR (Option Lfc.Opd)):Prop:=∀(P k:Nat)(G:Hd)(w:World),k≤p.toks.length→p.exprG g k≠.out→PW w P G p k →
  Calls Tryz.prog 35 #[.pointer (some ⟨P,0,none⟩)] w (PRes P G p w (RawR w) (p.exprG g k))
def ClsR(w:World)(x:Lfc.Opd)(v:Value)(w':World):Prop:=∃k n q us A c,v=.agg #[.int .i64 k,S n,.int .i64 q,.slice A us.length c,.bool true]∧x.tree=.node k n q us∧x.closed=true∧TreeP (fun b=>w.heap.size≤b) w' x.tree (.int .i64 k) (S n) (.int .i64 q) (.slice A us.length c)
theorem PR.then_ne{α β:Type}{r:Lfc.PR α}{f:α→Nat→Lfc.PR β}(h:r.then f≠.out):r≠.out:=fun e=>h (by rw[e];rfl)
set_option maxRecDepth 100000 in
set_option maxHeartbeats 4000000 in
theorem par_of_expr(p:Lfc.PE)(ok:POk p)(g:Nat→Lfc.PR (Option Lfc.Opd))(hB:Lfc.OpdB p g)(hE:ExprC p g)(P k:Nat)(G:Hd)(w:World)(hk:k<p.toks.length)(hne:p.parG g k≠.out)(h:PW w P G p k) :
    Calls Tryz.prog 116 #[.pointer (some ⟨P,0,none⟩)] w (PRes P G p w (ClsR w) (p.parG g k)):=by
  have hP:=h.lt
  obtain⟨wa,hwa⟩:∃wa,w.alloc (.cells #[.int .i64 0,S [],.int .i64 0,.slice none 0 0,.bool false] 129)=wa:=⟨_,rfl⟩
  have ba:Below w.heap.size w wa:=by rw[←hwa];exact(Below.refl _ _).alloc (Nat.le_refl _) _
  have qa:wa.heap[w.heap.size]?=some (.cells #[.int .i64 0,S [],.int .i64 0,.slice none 0 0,.bool false] 129 (0,0)):=by rw[←hwa];exact heap_alloc_new _ _
  have hsa:=eq2 (show wa.heap.size=w.heap.size+1 by rw[←hwa];simp)
  have CP:=Lib.hid (peek_any wa (h.below ba) (Nat.le_of_lt hk) ok)
  have HW:=Lib.hid h
  have HE:=Lib.hid hE
  have HB:=Lib.hid hB
  have HK:=Lib.hid ok
  have BA:=Lib.hid ba
  have QA:=Lib.hid qa
  have hf2:=tok_f2
  have hlen:=ok.len
  have HNE:=Lib.hid hne
  clear h hE hB ok ba qa hne
  go_enter Tryz.func116,Tryz.ntmps116
  go_upto_region 1 with fail
  clear hwa
  go_upto_region 2 with(go_at_call 63;refine CP.out.mono ?_;rintro e w1⟨rfl,b1⟩)
  have hs1:=b1.size
  have bw1:=BA.out.trans (b1.mono BA.out.size)
  have h1:=HW.out.below bw1
  have h2:=h1.step (k+1)
  rw[show((k+1:Nat):Int)=(k:Int)+1 by omega] at h2
  obtain⟨_,x1,_,_,xf,_,_,_⟩:=h1.cells
  have xf1:=xf 1
  obtain⟨w2,hw2⟩:∃w2,w1.setCell ⟨P,1,none⟩ (.int .i64 ((k:Int)+1))=w2:=⟨_,rfl⟩
  have o2:Oth P w1 w2:=by rw[←hw2];exact Oth.set _ _
  rw[hw2] at h2
  have q2:=o2.heap ((b1.block _ (by omega)).trans QA.out) (by omega)
  have O2:=Lib.hid ((Oth.of_below bw1).trans o2)
  have Q2:=Lib.hid q2
  have hs2:=o2.size
  have HPP:Hid (p.parG g k=(p.exprG g (k+1)).then fun t k'=>(if p.is k' 2 [58] then(p.exprG g (k'+1)).then fun u k''=>.ok (.node 9 [] (p.pk k).pos [t,u]) k'' else .ok t k').then fun t k''=>(p.punct k'' [41]).then fun _ k3=>.ok ⟨t,true⟩ k3):=Lib.hid rfl
  have hne1:p.exprG g (k+1)≠.out:=PR.then_ne (by have:=HNE.out;rw[HPP.out] at this;exact this)
  have hce:=HE.out P (k+1) G w2 (by omega) hne1 h2
  generalize (p.pk k).pos=pos at *
  clear xf h1 h2 o2 q2 bw1
  cases hr1:p.exprG g (k+1) with
  |out=>exact absurd hr1 hne1
  | err cc aa =>
    rw[hr1] at hce
    have CE:=Lib.hid hce
    have HF:Hid (p.parG g k=.err cc aa):=Lib.hid (by rw[HPP.out,hr1];rfl)
    clear hce hr1
    go_wp2_with (go_at_call 35;refine CE.out.mono ?_;rintro e w3⟨rfl,o3⟩)
    rw[HF.out]
    exact⟨rfl,rfl,O2.out.trans o3⟩
  | ok t k1 =>
    rw[hr1] at hce
    have CE:=Lib.hid hce
    obtain⟨hb1,hb2,hb3,_⟩:=Lfc.exprG_b HB.out hr1
    have HR1:=Lib.hid hr1
    clear hce hr1
    go_upto_region 4 with(go_at_call 35;refine CE.out.mono ?_;rintro e w3⟨⟨v,rfl,hv⟩,h3,o3⟩;obtain⟨k5,n5,p5,us5,A5,c5,ht5,rfl,hp5⟩:=TreeVP.parts4 hv)
    clear hv
    have hs3:=o3.size
    obtain⟨w4,hw4⟩:∃w4,w3.alloc (.cells #[.int .i64 k5,S n5,.int .i64 p5,.slice A5 us5.length c5] 46)=w4:=⟨_,rfl⟩
    have b4:Below w3.heap.size w3 w4:=by rw[←hw4];exact(Below.refl _ _).alloc (Nat.le_refl _) _
    have q4:w4.heap[w3.heap.size]?=some (.cells #[.int .i64 k5,S n5,.int .i64 p5,.slice A5 us5.length c5] 46 (0,0)):=by rw[←hw4];exact heap_alloc_new _ _
    rw[hw4]
    have hs4:=eq2 (show w4.heap.size=w3.heap.size+1 by rw[←hw4];simp)
    have h4:=h3.below b4
    have O4:=Lib.hid (O2.out.trans (o3.trans (Oth.of_below b4)))
    have QR4:=Lib.hid ((b4.block _ (by omega)).trans (o3.heap Q2.out (by omega)))
    have Q4:=Lib.hid q4
    have HT4:Hid (TreeP (fun b=>w.heap.size<b∧b≠w3.heap.size) w4 t (.int .i64 k5) (S n5) (.int .i64 p5) (.slice A5 us5.length c5)):=Lib.hid (TreeP.keep (fun b _ hlt=>b4.block b hlt) b4.size (fun b hlt hb=>⟨by omega,by omega⟩) _ _ _ _ _ hp5)
    have hlb:w3.heap.size=w3.heap.size:=rfl
    generalize hB3:w3.heap.size=B at *
    have hct:=take_any 2 [58] w4 h4 (by omega) HK.out
    clear hw4 b4 q4 hp5 h3 o3 hlb
    cases hti:p.is k1 2 [58]
    · simp only[hti,Bool.false_eq_true,if_false] at hct
      have CT:=Lib.hid hct
      have HF0:Hid (p.parG g k=(p.punct k1 [41]).then fun _ k3=>.ok ⟨t,true⟩ k3):=Lib.hid (by rw[HPP.out,HR1.out];simp only[Lfc.PR.then];rw[if_neg (by rw[hti];simp)])
      have HNODE:=ht5
      clear hct hti h4
      go_upto_region 6 with(go_at_call 139;refine CT.out.mono ?_;rintro e w5⟨rfl,h5,o5⟩)
      have hs5:=o5.size
      have O5:=Lib.hid (O4.out.trans o5)
      have QR5:=Lib.hid (o5.heap QR4.out (by omega))
      have Q5:=Lib.hid (o5.heap Q4.out (by omega))
      have HT5:Hid (TreeP (fun b=>w.heap.size<b) w5 t (.int .i64 k5) (S n5) (.int .i64 p5) (.slice A5 us5.length c5)):=Lib.hid (TreeP.keep (fun b hb hlt=>o5.block b hlt (fun e=>by have:=Option.some.inj e;omega)) o5.size (fun b _ hb=>hb.1) _ _ _ _ _ HT4.out)
      clear o5
      have hcp:=punct_any [41] w5 h5 (by omega) HK.out
      cases hpu:p.punct k1 [41] with
      |out=>exact absurd (by rw[HF0.out,hpu];rfl) HNE.out
      | err cc aa =>
        rw[hpu] at hcp
        have CQ:=Lib.hid hcp
        have HF:Hid (p.parG g k=.err cc aa):=Lib.hid (by rw[HF0.out,hpu];rfl)
        clear hcp hpu
        go_wp2_with (go_at_call 141;refine CQ.out.mono ?_;rintro e w9⟨rfl,o9⟩)
        rw[HF.out]
        exact⟨rfl,rfl,O5.out.trans o9⟩
      | ok un k9 =>
        rw[hpu] at hcp
        have CQ:=Lib.hid hcp
        have HF:Hid (p.parG g k=.ok ⟨t,true⟩ k9):=Lib.hid (by rw[HF0.out,hpu];rfl)
        clear hcp hpu
        go_upto_region 7 with(go_at_call 141;refine CQ.out.mono ?_;rintro e w9⟨⟨v9,rfl,rfl⟩,h9,o9⟩)
        have hs9:=o9.size
        have z9:=cells4 (o9.heap Q5.out (by omega))
        obtain⟨z0,z1,z2,z3⟩:=z9
        obtain⟨s1,s2,s3,s4,s5,g1,g2,g3,g4,g5,⟨y0,y1,y2,y3,y4⟩,⟨f0,f1,f2,f3,f4⟩,hq,ho⟩:=put5p (o9.heap QR5.out (by omega)) (.int .i64 k5) (S n5) (.int .i64 p5) (.slice A5 us5.length c5) (.bool true)
        have O9:=Lib.hid ((O5.out.trans o9).over ho (Nat.le_refl _))
        have HP9:Hid (PW s5 P G p k9):=Lib.hid (HW.out.to O9.out ((ho.block P h9.lt (fun e=>by have:=Option.some.inj e;omega)).trans h9.1))
        have HT9:Hid (TreeP (fun b=>w.heap.size≤b) s5 (t) (.int .i64 k5) (S n5) (.int .i64 p5) (.slice A5 us5.length c5)):=Lib.hid (TreeP.keep (q:=fun b=>w.heap.size<b) (fun b hb hlt=>(ho.block b (by omega) (fun e=>by have:=Option.some.inj e;omega)).trans (o9.block b hlt (fun e=>by have:=Option.some.inj e;omega))) (by have:=ho.size;omega) (fun b _ hb=>by omega) _ _ _ _ _ HT5.out)
        have HQ:=Lib.hid hq
        clear hq ho h9 o9
        go_wp2_with fail
        refine bodyPost_ret (results_opdP rfl _ _ _ _ _ _ _ _ rfl HQ.out) rfl ?_
        rw[HF.out]
        exact⟨⟨_,rfl,_,_,_,_,_,_,rfl,HNODE,rfl,HT9.out⟩,HP9.out,O9.out⟩
    · simp only[hti,if_true] at hct
      have CT:=Lib.hid hct
      have hlt1:=p.is_lt hti
      have HP2:Hid (p.parG g k=((p.exprG g (k1+1)).then fun u k''=>(.ok (.node 9 [] pos [t,u]) k'':Lfc.PR Lfc.Raw)).then fun t k''=>(p.punct k'' [41]).then fun _ k3=>.ok ⟨t,true⟩ k3):=Lib.hid (by rw[HPP.out,HR1.out];simp only[Lfc.PR.then];rw[if_pos hti])
      have hne2:p.exprG g (k1+1)≠.out:=PR.then_ne (PR.then_ne (by have:=HNE.out;rw[HP2.out] at this;exact this))
      clear hct hti h4
      go_upto_region 5 with(go_at_call 139;refine CT.out.mono ?_;rintro e w5⟨rfl,h5,o5⟩)
      have hs5:=o5.size
      have O5:=Lib.hid (O4.out.trans o5)
      have QR5:=Lib.hid (o5.heap QR4.out (by omega))
      have Q5:=Lib.hid (o5.heap Q4.out (by omega))
      have HT5:Hid (TreeP (fun b=>w.heap.size<b∧b≠B) w5 t (.int .i64 k5) (S n5) (.int .i64 p5) (.slice A5 us5.length c5)):=Lib.hid (TreeP.keep (fun b hb hlt=>o5.block b hlt (fun e=>by have:=Option.some.inj e;omega)) o5.size (fun b _ hb=>hb) _ _ _ _ _ HT4.out)
      have hce2:=HE.out P (k1+1) G w5.drew (by omega) hne2 h5.drew
      obtain⟨z0,z1,z2,z3⟩:=cells4 Q5.out
      clear o5
      cases hr2:p.exprG g (k1+1) with
      |out=>exact absurd hr2 hne2
      | err cc aa =>
        rw[hr2] at hce2
        have CE2:=Lib.hid hce2
        have HF:Hid (p.parG g k=.err cc aa):=Lib.hid (by rw[HP2.out,hr2];rfl)
        clear hce2 hr2
        refine wp_region_held_drew (S:=fun W=>W.cell? ⟨B,0,none⟩=some (.int .i64 k5)∧W.cell? ⟨B,1,none⟩=some (S n5)∧W.cell? ⟨B,2,none⟩=some (.int .i64 p5)∧W.cell? ⟨B,3,none⟩=some (.slice A5 us5.length c5)) (by kernel_rfl) ⟨z0,z1,z2,z3⟩ (fun hHeld=>?_)
        refine tk 0 ?_
        refine tk 1 ?_
        refine tk 2 ?_
        refine wpAnyH_ready (rs:=[3]) (by kernel_rfl) (by simp) (AllReadyH.cons rfl (fun K hK=>?_) AllReadyH.nil)
        go_simp
        go_at_call 35
        refine CE2.out.mono ?_
        rintro e w6⟨rfl,o6⟩
        rw[HF.out]
        exact⟨rfl,rfl,O5.out.trans ((Oth.refl _ _).drew.trans o6)⟩
      | ok u k2 =>
        rw[hr2] at hce2
        have CE2:=Lib.hid hce2
        obtain⟨hb4,hb5,hb6,_⟩:=Lfc.exprG_b HB.out hr2
        have HF0:Hid (p.parG g k=(p.punct k2 [41]).then fun _ k3=>.ok ⟨.node 9 [] pos [t,u],true⟩ k3):=Lib.hid (by rw[HP2.out,hr2];rfl)
        clear hce2 hr2
        have hB5:B<w5.heap.size:=by omega
        go_region_law (go_simp;go_at_call 35;refine CE2.out.mono ?_;rintro e w6⟨⟨v,rfl,hv⟩,h6,o6⟩;obtain⟨k7,n7,p7,us7,A7,c7,ht7,rfl,hp7⟩:=TreeVP.parts4 hv;obtain⟨z60,z61,z62,z63⟩:=cells4 (o6.heap Q5.out (by omega));obtain⟨w7,hw7⟩:∃w7,w6.alloc (.cells #[.int .i64 k5,S n5,.int .i64 p5,.slice A5 us5.length c5,.int .i64 k7,S n7,.int .i64 p7,.slice A7 us7.length c7] 46)=w7:=⟨_,rfl⟩;have b7:Below w6.heap.size w6 w7:=(by rw[←hw7];exact(Below.refl _ _).alloc (Nat.le_refl _) _);have hs6:w5.heap.size≤w6.heap.size:=o6.size;have q7:w7.heap[w6.heap.size]?=some (.cells #[.int .i64 k5,S n5,.int .i64 p5,.slice A5 us5.length c5,.int .i64 k7,S n7,.int .i64 p7,.slice A7 us7.length c7] 46 (0,0)):=(by rw[←hw7];exact heap_alloc_new _ _);have hs7:=eq2 (show w7.heap.size=w6.heap.size+1 by(rw[←hw7];simp));obtain⟨s1,s2,s3,s4,g1,g2,g3,g4,⟨y0,y1,y2,y3⟩,⟨f0,f1,f2,f3⟩,hq,ho⟩:=put4 ((b7.block _ (Nat.lt_of_lt_of_le hB5 hs6)).trans (o6.heap Q5.out (by omega))) (.int .i64 9) (S []) (.int .i64 (pos:Int)) (.slice (some ⟨w6.heap.size,0,none⟩) 2 2))
        all_goals
         clear hv z60 z61 z62 z63
         have o7:Oth P w w7:=(O5.out.trans ((Oth.refl _ _).drew.trans o6)).trans (Oth.of_below b7)
         have O8:=Lib.hid (o7.over ho (by omega))
         have h7:=h6.below b7
         have h8:PW s4 P G p k2:=HW.out.to O8.out ((ho.block P h7.lt (fun e=>by have:=Option.some.inj e;omega)).trans h7.1)
         have hs8:=ho.size
         have QR8:=Lib.hid (ho.heap ((b7.block _ (by omega)).trans (o6.heap QR5.out (by omega))) (by omega))
         have Q8:=Lib.hid hq
         have HT8:Hid (TreeP (fun b=>w.heap.size<b) s4 (.node 9 [] pos [t,u]) (.int .i64 9) (S []) (.int .i64 (pos:Int)) (.slice (some ⟨w6.heap.size,0,none⟩) 2 2)):=by
           have t1:TreeP (fun b=>w.heap.size<b) s4 t (.int .i64 k5) (S n5) (.int .i64 p5) (.slice A5 us5.length c5):=TreeP.keep (q:=fun b=>w.heap.size<b∧b≠B) (w:=w5) (fun b hb hlt=>(ho.block b (by omega) (fun e=>hb.2 (Option.some.inj e))).trans ((b7.block b (by omega)).trans (o6.block b hlt (fun e=>by have:=Option.some.inj e;omega)))) (by omega) (fun b _ hb=>hb.1) _ _ _ _ _ HT5.out
           have t2:TreeP (fun b=>w.heap.size<b) s4 u (.int .i64 k7) (S n7) (.int .i64 p7) (.slice A7 us7.length c7):=TreeP.keep (q:=fun b=>w5.drew.heap.size≤b) (w:=w6) (fun b hb hlt=>by
             have hb:w5.heap.size≤b:=hb
             exact(ho.block b (by omega) (fun e=>by have:=Option.some.inj e;omega)).trans (b7.block b hlt)) (by omega) (fun b _ hb=>by
             have hb:w5.heap.size≤b:=hb
             omega) _ _ _ _ _ hp7
           have hq8:=(ho.block _ (by omega) (fun e=>by have:=Option.some.inj e;omega)).trans q7
           have c:=fun j=>Lib.cell_of_heap hq8 j
           refine Lib.hid ?_
           rw[TreeP]
           refine⟨rfl,rfl,by simp,rfl,_,_,rfl,Nat.le_refl _,fun _=>⟨w6.heap.size,0,rfl,by omega,by omega,?_⟩⟩
           rw[TreesP,TreesP,TreesP]
           exact⟨⟨_,_,_,_,c 0,c 1,c 2,c 3,t1⟩,⟨_,_,_,_,c 4,c 5,c 6,c 7,t2⟩,trivial⟩
         clear ho b7 q7 o6 h6 hp7 o7 h7 hq y0 y1 y2 y3 f0 f1 f2 f3 g1 g2 g3 g4 z0 z1 z2 z3
         have hcp:=punct_any [41] s4 h8 (by omega) HK.out
         cases hpu:p.punct k2 [41] with
         |out=>exact absurd (by rw[HF0.out,hpu];rfl) HNE.out
         | err cc aa =>
           rw[hpu] at hcp
           have CQ:=Lib.hid hcp
           have HF:Hid (p.parG g k=.err cc aa):=Lib.hid (by rw[HF0.out,hpu];rfl)
           clear hcp hpu
           go_wp2_with (go_at_call 141;refine CQ.out.mono ?_;rintro e w9⟨rfl,o9⟩)
           rw[HF.out]
           exact⟨rfl,rfl,O8.out.trans o9⟩
         | ok un k9 =>
           rw[hpu] at hcp
           have CQ:=Lib.hid hcp
           have HF:Hid (p.parG g k=.ok ⟨.node 9 [] pos [t,u],true⟩ k9):=Lib.hid (by rw[HF0.out,hpu];rfl)
           clear hcp hpu
           go_upto_region 7 with(go_at_call 141;refine CQ.out.mono ?_;rintro e w9⟨⟨v9,rfl,rfl⟩,h9,o9⟩)
           have hs9:=o9.size
           have z9:=cells4 (o9.heap Q8.out (by omega))
           obtain⟨z0,z1,z2,z3⟩:=z9
           obtain⟨s1,s2,s3,s4,s5,g1,g2,g3,g4,g5,⟨y0,y1,y2,y3,y4⟩,⟨f0,f1,f2,f3,f4⟩,hq,ho⟩:=put5p (o9.heap QR8.out (by omega)) (.int .i64 9) (S []) (.int .i64 (pos:Int)) (.slice (some ⟨w6.heap.size,0,none⟩) 2 2) (.bool true)
           have O9:=Lib.hid ((O8.out.trans o9).over ho (Nat.le_refl _))
           have HP9:Hid (PW s5 P G p k9):=Lib.hid (HW.out.to O9.out ((ho.block P h9.lt (fun e=>by have:=Option.some.inj e;omega)).trans h9.1))
           have HT9:Hid (TreeP (fun b=>w.heap.size≤b) s5 (.node 9 [] pos [t,u]) (.int .i64 9) (S []) (.int .i64 (pos:Int)) (.slice (some ⟨w6.heap.size,0,none⟩) 2 2)):=Lib.hid (TreeP.keep (q:=fun b=>w.heap.size<b) (fun b hb hlt=>(ho.block b (by omega) (fun e=>by have:=Option.some.inj e;omega)).trans (o9.block b hlt (fun e=>by have:=Option.some.inj e;omega))) (by have:=ho.size;omega) (fun b _ hb=>by omega) _ _ _ _ _ HT8.out)
           have HQ:=Lib.hid hq
           clear hq ho h9 o9
           go_wp2_with fail
           refine bodyPost_ret (results_opdP rfl _ _ _ _ _ _ _ _ rfl HQ.out) rfl ?_
           rw[HF.out]
           exact⟨⟨_,rfl,_,_,_,_,_,_,rfl,rfl,rfl,HT9.out⟩,HP9.out,O9.out⟩
end Go.Proofs.YthajalgkjonaaaaGreatDoor
namespace Go.Proofs.YthajalgkjonaaaaGreatDoor
open Go.RowKit
structure BndI(w:World)(P:Nat)(G:Hd)(p:Lfc.PE)(k B:Nat)(kd:Int)(n:List UInt8)(pos:Nat)(l:List Lfc.Raw)(A:Option Addr)(c:Nat)(xs:List Value)(W:World):Prop where
  pw:PW W P G p k
  le:k≤p.toks.length
  oth:Oth P w W
  res:W.heap[w.heap.size]?=some (.cells #[.int .i64 0,S [],.int .i64 0,.slice none 0 0,.bool false] 129 (0,0))
  lt:w.heap.size<B
  box:W.heap[B]?=some (.cells #[.int .i64 kd,S n,.int .i64 (pos:Int),.slice A l.length c] 46 (0,0))
  own:W.ownsRow (B+1) 46 4 (.slice A l.length c) l.length xs
  row:RowP (fun b=>w.heap.size<b∧b≠B∧some b≠(Value.slice A l.length c).ownBlock) W l xs
  name:n.length≤1000000
theorem BndI.step{w W W':World}{P:Nat}{G:Hd}{p:Lfc.PE}{k k' B:Nat}{kd:Int}{n:List UInt8}{pos:Nat}{l:List Lfc.Raw}{A:Option Addr}{c:Nat}{xs:List Value}(h:BndI w P G p k B kd n pos l A c xs W)(hP:P<w.heap.size)(h':PW W' P G p k')(hk:k'≤p.toks.length)(o:Oth P W W'):BndI w P G p k' B kd n pos l A c xs W':=by
  have hB:=lt_of_block h.box
  have hlt:=h.lt
  refine⟨h',hk,h.oth.trans o,o.heap h.res (by omega),hlt,o.heap h.box (by omega),h.own.kept o (Or.inr (fun e=>by have:=(h.own.lt P e).1;omega)),?_,h.name⟩
  exact h.row.keep (fun b hb hlt=>o.block b hlt (fun e=>by have:=Option.some.inj e;have:=hb.1;omega)) o.size (fun _ _ h=>h)
theorem BndI.push{w W w1 w2 w3:World}{P k0 k k1:Nat}{G:Hd}{p:Lfc.PE}{B:Nat}{kd:Int}{n:List UInt8}{pos:Nat}{l:List Lfc.Raw}{A A':Option Addr}{c c':Nat}{xs:List Value}{u:Lfc.Raw}{v0 v1 v2 v3:Value}(h:BndI w P G p k B kd n pos l A c xs W)(h0:PW w P G p k0)(h1:PW w1 P G p k1)(hk1:k1≤p.toks.length)(o1:Oth P W w1)
    (ht:TreeP (fun b=>W.heap.size≤b) w1 u v0 v1 v2 v3) (b2:Below w1.heap.size w1 w2) (hown:w3.ownsRow (B+1) 46 4 (.slice A' (l.length+1) c') (l.length+1) (xs++[v0,v1,v2,v3])) (hg:w2.grownBy w3 (Value.slice A l.length c).ownBlock) (hl:(Value.slice A' (l.length+1) c').ownBlock=(Value.slice A l.length c).ownBlock∨(Value.slice A' (l.length+1) c').ownBlock=some w2.heap.size) :
    w3.heap[B]?=some (.cells #[.int .i64 kd,S n,.int .i64 (pos:Int),.slice A l.length c] 46 (0,0))∧BndI w P G p k1 B kd n pos (l++[u]) A' c' (xs++[v0,v1,v2,v3]) (w3.setCell ⟨B,3,none⟩ (.slice A' (l.length+1) c')):=by
  have hs1:=o1.size
  have hs2:=b2.size
  have hs3:=hg.size
  have hlt:=h.lt
  have hBl:=lt_of_block h.box
  have hP:=h0.lt
  obtain⟨v,hv'⟩:∃v,(Value.slice A l.length c)=v:=⟨_,rfl⟩
  have hw:=h.own
  have hrow:=h.row
  rw[hv'] at hg hl hrow
  rw[hv'] at hw
  have hv:∀b,v.ownBlock=some b→B+1≤b∧b<W.heap.size:=fun b hb=>hw.lt b hb
  have ho1:∀j,j<W.heap.size→j≠P→w1.heap[j]?=W.heap[j]?:=fun j hj hne=>o1.block j hj (fun e=>hne (Option.some.inj e))
  have hbel:∀j,j<w1.heap.size→some j≠v.ownBlock→w3.heap[j]?=w1.heap[j]?:=fun j hj hne=>(hg.block j (by omega) hne).trans (b2.block j hj)
  have hb3:w3.heap[B]?=some (.cells #[.int .i64 kd,S n,.int .i64 (pos:Int),.slice A l.length c] 46 (0,0)):=(hbel B (by omega) (fun e=>by have:=(hv B e.symm).1;omega)).trans ((ho1 B hBl (by omega)).trans h.box)
  refine⟨hb3,?_⟩
  obtain⟨w4,hw4⟩:∃w4,w3.setCell ⟨B,3,none⟩ (.slice A' (l.length+1) c')=w4:=⟨_,rfl⟩
  have o4:Oth B w3 w4:=by rw[←hw4];exact Oth.set _ _
  have hs4:=o4.size
  rw[hw4]
  have h4:∀j,j<w1.heap.size→j≠B→some j≠v.ownBlock→w4.heap[j]?=w1.heap[j]?:=fun j hj hB hne=>(o4.block j (by omega) (fun e=>hB (Option.some.inj e))).trans (hbel j hj hne)
  have o3:Oth P w w4:=⟨o4.os.trans (hg.os.trans (b2.os.trans (o1.os.trans h.oth.os))),o4.tape.trans (hg.tape.trans (b2.tape.trans (o1.tape.trans h.oth.tape))),o4.output.trans (hg.output.trans (b2.output.trans (o1.output.trans h.oth.output))),by have:=h.oth.size;omega,fun j hj hne=>by
    rw[h4 j (by omega) (by omega) (fun e=>by have:=(hv j e.symm).1;omega),o1.block j (by omega) hne]
    exact h.oth.block j hj hne⟩
  have hl4:(l++[u]).length=l.length+1:=by simp
  have hq:∀b,b<w1.heap.size→some b≠v.ownBlock→some b≠(Value.slice A' (l++[u]).length c').ownBlock:=fun b hb hn=>by
    rw[hl4]
    rcases hl with e | e
    · rw[e];exact hn
    · rw[e];intro e';have:=Option.some.inj e';omega
  refine⟨h0.to o3 ((h4 P (by omega) (by omega) (fun e=>by have:=(hv P e.symm).1;omega)).trans h1.1),hk1,o3,(h4 _ (by omega) (by omega) (fun e=>by have:=(hv _ e.symm).1;omega)).trans ((ho1 _ (by omega) (by omega)).trans h.res),hlt,?_,?_,?_,h.name⟩
  · rw[hl4,←hw4];exact set3 hb3
  · rw[hl4]
    exact hown.kept o4 (Or.inr (fun e=>by have:=(hown.lt B e).1;omega))
  · refine RowP.append (RowP.one (TreeP.keep (w:=w1) (fun b hb hlt=>h4 b hlt (by omega) (fun e=>by have:=(hv b e.symm).2;omega)) (by omega) (fun b hlt hb=>⟨by omega,by omega,hq b hlt (fun e=>by have:=(hv b e.symm).2;omega)⟩) _ _ _ _ _ ht)) ?_
    exact hrow.keep (fun b hb hlt=>(h4 b (by omega) hb.2.1 hb.2.2).trans (ho1 b hlt (by have:=hb.1;omega))) (by omega) (fun b hlt hb=>⟨hb.1,hb.2.1,hq b (by omega) hb.2.2⟩)
theorem BndI.nameTo{w W:World}{P k0:Nat}{G:Hd}{p:Lfc.PE}{k B:Nat}{kd:Int}{n0:List UInt8}{pos:Nat}{l:List Lfc.Raw}{A:Option Addr}{c:Nat}{xs:List Value}(h:BndI w P G p k B kd n0 pos l A c xs W)(h0:PW w P G p k0)(n:List UInt8)(hn:n.length≤1000000):BndI w P G p k B kd n pos l A c xs (W.setCell ⟨B,1,none⟩ (S n)):=by
  have hBl:=lt_of_block h.box
  have hlt:=h.lt
  have hP:=h0.lt
  have o:Oth B W (W.setCell ⟨B,1,none⟩ (S n)):=Oth.set _ _
  have o':=h.oth.over o (by omega)
  refine⟨h0.to o' ((o.block P h.pw.lt (fun e=>by have:=Option.some.inj e;omega)).trans h.pw.1),h.le,o',o.heap h.res (by omega),hlt,set1 h.box,h.own.kept o (Or.inr (fun e=>by have:=(h.own.lt B e).1;omega)),?_,hn⟩
  exact h.row.keep (fun b hb hlt=>o.block b hlt (fun e=>hb.2.1 (Option.some.inj e))) o.size (fun _ _ h=>h)
theorem BndI.tree{w W:World}{P:Nat}{G:Hd}{p:Lfc.PE}{k B:Nat}{kd:Int}{n:List UInt8}{pos:Nat}{l:List Lfc.Raw}{A:Option Addr}{c:Nat}{xs:List Value}(h:BndI w P G p k B kd n pos l A c xs W)(hl:l≠[]):TreeP (fun b=>w.heap.size<b) W (.node kd n pos l) (.int .i64 kd) (S n) (.int .i64 (pos:Int)) (.slice A l.length c):=by
  rw[TreeP]
  have hlt:=h.lt
  have hc:=own_le h.own
  refine⟨rfl,rfl,h.name,rfl,A,c,rfl,hc,fun _=>?_⟩
  have hr:RowP (fun b=>w.heap.size<b) W l xs:=h.row.keep (fun _ _ _=>rfl) (Nat.le_refl _) (fun _ _ hb=>hb.1)
  have hw:=h.own
  rcases hw.2 with⟨_,h2⟩ | ⟨g,cap,cur,hv,hbg,hg,_⟩
  · exact absurd (List.length_eq_zero_iff.1 h2) hl
  · injection hv with e1 _ e3
    subst e1 e3
    exact⟨g,0,rfl,lt_of_block hg,by omega,hr.lie (own_cells hw)⟩
theorem hlm4{n:Nat}(h:n≤4):n+1≤maxLen∧(n+1)*56≤140737488355328:=⟨by unfold maxLen;omega,by omega⟩
set_option maxRecDepth 100000 in
set_option maxHeartbeats 8000000 in
theorem bind_of_expr(p:Lfc.PE)(ok:POk p)(g:Nat→Lfc.PR (Option Lfc.Opd))(hB:Lfc.OpdB p g)(hE:ExprC p g)(kind:Int)(end_:List UInt8)(P k:Nat)(G:Hd)(w:World)(hk:k<p.toks.length)(hne:p.bindG g kind end_ k≠.out)(h:PW w P G p k) :
    Calls Tryz.prog 117 #[.pointer (some ⟨P,0,none⟩),.int .i64 kind,S end_] w (PRes P G p w (ClsR w) (p.bindG g kind end_ k)):=by
  obtain⟨it,hi,hz0,hz1,hz2⟩:=raw_info
  have hP:=h.lt
  obtain⟨wa,hwa⟩:∃wa,w.alloc (.cells #[.int .i64 0,S [],.int .i64 0,.slice none 0 0,.bool false] 129)=wa:=⟨_,rfl⟩
  have ba:Below w.heap.size w wa:=by rw[←hwa];exact(Below.refl _ _).alloc (Nat.le_refl _) _
  have qa:wa.heap[w.heap.size]?=some (.cells #[.int .i64 0,S [],.int .i64 0,.slice none 0 0,.bool false] 129 (0,0)):=by rw[←hwa];exact heap_alloc_new _ _
  have hsa:=eq2 (show wa.heap.size=w.heap.size+1 by rw[←hwa];simp)
  have CP:=Lib.hid (peek_any wa (h.below ba) (Nat.le_of_lt hk) ok)
  have HW:=Lib.hid h
  have HE:=Lib.hid hE
  have HB:=Lib.hid hB
  have HK:=Lib.hid ok
  have BA:=Lib.hid ba
  have QA:=Lib.hid qa
  have hf2:=tok_f2
  have hlen:=ok.len
  have HNE:=Lib.hid hne
  have HPP:Hid (p.bindG g kind end_ k=(p.bindN (k+1)).then fun n k1=>(if p.is k1 2 [58] then(p.exprG g (k1+1)).then fun u k2=>.ok [u] k2 else .ok [] k1).then fun l k2=>(p.punct k2 end_).then fun _ k3=>(p.exprG g k3).then fun u k4=>.ok ⟨.node kind n (p.pk k).pos (l++[u]),true⟩ k4):=Lib.hid rfl
  generalize (p.pk k).pos=pos at *
  clear h hE hB ok ba qa hne
  go_enter Tryz.func117,Tryz.ntmps117
  go_upto_region 1 with fail
  clear hwa
  go_upto_region 2 with(go_at_call 63;refine CP.out.mono ?_;rintro e w1⟨rfl,b1⟩)
  have hs1:=b1.size
  have bw1:=BA.out.trans (b1.mono BA.out.size)
  obtain⟨w2,hw2⟩:∃w2,w1.alloc (.cells #[.int .i64 kind,S [],.int .i64 (pos:Int),.slice none 0 0] 46)=w2:=⟨_,rfl⟩
  have b2:Below w1.heap.size w1 w2:=by rw[←hw2];exact(Below.refl _ _).alloc (Nat.le_refl _) _
  have q2:w2.heap[w1.heap.size]?=some (.cells #[.int .i64 kind,S [],.int .i64 (pos:Int),.slice none 0 0] 46 (0,0)):=by rw[←hw2];exact heap_alloc_new _ _
  have hs2:=eq2 (show w2.heap.size=w1.heap.size+1 by rw[←hw2];simp)
  rw[hw2]
  have bw2:Below w.heap.size w w2:=bw1.trans (b2.mono (by omega))
  have h2:=HW.out.below bw2
  have h3:=h2.step (k+1)
  rw[show((k+1:Nat):Int)=(k:Int)+1 by omega] at h3
  obtain⟨_,x1,_,_,xf,_,_,_⟩:=h2.cells
  have xf1:=xf 1
  obtain⟨w3,hw3⟩:∃w3,w2.setCell ⟨P,1,none⟩ (.int .i64 ((k:Int)+1))=w3:=⟨_,rfl⟩
  have o3:Oth P w2 w3:=by rw[←hw3];exact Oth.set _ _
  rw[hw3] at h3
  obtain⟨B,hBe⟩:∃B,w1.heap.size=B:=⟨_,rfl⟩
  have hs3:=o3.size
  have I3:Hid (BndI w P G p (k+1) B kind [] pos [] none 0 [] w3):=Lib.hid ⟨h3,by omega,(Oth.of_below bw2).trans o3,o3.heap ((b2.block _ (by omega)).trans ((b1.block _ (by omega)).trans QA.out)) (by omega),by omega,by rw[←hBe];exact o3.heap q2 (by omega),own_nil _ _ _ _,by rw[RowP],by simp⟩
  have CT:=Lib.hid (take_any 2 [95] w3 h3 (by omega) HK.out)
  have hltB:w.heap.size<B:=by omega
  rw[hBe]
  rw[hBe] at hs2
  clear hw2 b2 q2 bw2 h2 h3 xf bw1 o3 hBe
  go_upto_region 3 with fail
  clear hw3 x1 xf1
  go_upto_if 21 with(go_at_call 139;refine CT.out.mono ?_;rintro e w4⟨rfl,h4,o4⟩)
  have I4:=Lib.hid (I3.out.step hP h4 (by
    split
    · rename_i hi1;have:=p.is_lt hi1;omega
    · omega) o4)
  clear h4 o4
  go_cut [] (fun wx=>∃(n:List UInt8)(k2:Nat),Hid (p.bindN (k+1)=.ok n k2)∧Hid (BndI w P G p k2 B kind n pos [] none 0 [] wx))
  case first =>
    cases hb:p.is (k+1) 2 [95]
    · rw[hb] at I4
      simp only[Bool.false_eq_true,if_false] at I4
      have hcn:=name_at w4 I4.out.pw I4.out.le HK.out
      have HBN:Hid (p.bindN (k+1)=p.name (k+1)):=Lib.hid (by unfold Lfc.PE.bindN;rw[if_neg (by rw[hb];simp)])
      clear hb CT
      cases hn:p.name (k+1) with
      |out=>exact absurd (by rw[HPP.out,HBN.out,hn];rfl) HNE.out
      | err cc aa =>
        rw[hn] at hcn
        have CN:=Lib.hid hcn
        have HF:Hid (p.bindG g kind end_ k=.err cc aa):=Lib.hid (by rw[HPP.out,HBN.out,hn];rfl)
        clear hcn hn
        go_wp2_with (go_at_call 138;refine CN.out.mono ?_;rintro e w5⟨rfl,o5⟩)
        rw[HF.out]
        exact⟨rfl,rfl,I4.out.oth.trans o5⟩
      | ok n k2 =>
        rw[hn] at hcn
        have CN:=Lib.hid hcn
        obtain⟨hn1,hn2,hn3⟩:=p.name_ok hn
        have HN:=Lib.hid (HBN.out.trans hn)
        have hnl:n.length≤1000000:=by
          have:=(HK.out.tok _ (List.mem_of_getElem? (PE.pk_of hn1))).1
          rw[hn3];omega
        clear hcn hn hn3
        go_wp2_with (go_at_call 138;refine CN.out.mono ?_;rintro e w5⟨⟨v,rfl,rfl⟩,h5,o5⟩;have hi5:=I4.out.step hP h5 (by omega) o5;have I5:=Lib.hid (hi5.nameTo HW.out n hnl);have y1:=Lib.cell_of_heap hi5.box 1;have f1:=Lib.frozen_of_heap hi5.box 1;clear hi5 h5 o5)
        go_meet
        exact⟨n,k2,HN,I5⟩
    · rw[hb] at I4
      simp only[if_true] at I4
      have HN:Hid (p.bindN (k+1)=.ok [95] (k+1+1)):=Lib.hid (by unfold Lfc.PE.bindN;rw[if_pos hb])
      have I5:=Lib.hid (I4.out.nameTo HW.out [95] (by simp))
      have y1:=Lib.cell_of_heap I4.out.box 1
      have f1:=Lib.frozen_of_heap I4.out.box 1
      clear hb CT
      go_wp2_with fail
      go_meet
      exact⟨[95],_,HN,I5⟩
  case rest =>
  obtain⟨n,k2,HN,I5⟩:=hcut
  clear I3 I4 CT
  have CT2:=Lib.hid (take_any 2 [58] wc I5.out.pw I5.out.le HK.out)
  have HP2:Hid (p.bindG g kind end_ k=(if p.is k2 2 [58] then(p.exprG g (k2+1)).then fun u k2=>.ok [u] k2 else .ok [] k2).then fun l k2=>(p.punct k2 end_).then fun _ k3=>(p.exprG g k3).then fun u k4=>.ok ⟨.node kind n pos (l++[u]),true⟩ k4):=Lib.hid (by rw[HPP.out,HN.out];rfl)
  go_upto_if 27 with(go_at_call 139;refine CT2.out.mono ?_;rintro e w6⟨rfl,h6,o6⟩)
  have I6:=Lib.hid (I5.out.step hP h6 (by
    have:=I5.out.le
    split
    · rename_i hi1;have:=p.is_lt hi1;omega
    · omega) o6)
  have hk2:=I5.out.le
  clear h6 o6
  go_cut [] (fun wx=>∃(l:List Lfc.Raw)(k3:Nat)(A:Option Addr)(c:Nat)(xs:List Value),l.length≤1∧Hid ((if p.is k2 2 [58] then(p.exprG g (k2+1)).then fun u k2=>(.ok [u] k2:Lfc.PR (List Lfc.Raw)) else .ok [] k2)=.ok l k3)∧Hid (BndI w P G p k3 B kind n pos l A c xs wx))
  case first =>
    cases hb:p.is k2 2 [58]
    · rw[hb] at I6
      simp only[Bool.false_eq_true,if_false] at I6
      clear CT2
      go_wp2_with fail
      go_meet
      exact⟨[],k2,none,0,[],by simp,Lib.hid (by rw[hb];rfl),I6⟩
    · rw[hb] at I6
      simp only[if_true] at I6
      have HX:Hid (p.bindG g kind end_ k=(p.exprG g (k2+1)).then fun u k2=>(p.punct k2 end_).then fun _ k3=>(p.exprG g k3).then fun u' k4=>.ok ⟨.node kind n pos ([u]++[u']),true⟩ k4):=Lib.hid (by
        rw[HP2.out,if_pos hb]
        cases p.exprG g (k2+1) <;> rfl)
      have hne2:p.exprG g (k2+1)≠.out:=PR.then_ne (by have:=HNE.out;rw[HX.out] at this;exact this)
      have HLM:=hlm4 (n:=([]:List Lfc.Raw).length) (by simp)
      have HIF:Hid (∀v k9,p.exprG g (k2+1)=.ok v k9→(if p.is k2 2 [58]=true then((p.exprG g (k2+1)).then fun u k2=>(.ok [u] k2:Lfc.PR (List Lfc.Raw))) else .ok [] k2)=.ok [v] k9):=Lib.hid (fun v k9 h=>by rw[if_pos hb,h];rfl)
      clear CT2 hb
      go_upto_region 7 with fail
      have hce:=HE.out P (k2+1) G w6.drew (by have:=I6.out.le;omega) hne2 I6.out.pw.drew
      cases hr:p.exprG g (k2+1) with
      |out=>exact absurd hr hne2
      | err cc aa =>
        rw[hr] at hce
        have CE:=Lib.hid hce
        have HFE:Hid (p.bindG g kind end_ k=.err cc aa):=Lib.hid (by rw[HX.out,hr];rfl)
        have z0:w6.cell? ⟨B,3,none⟩=some (.slice none ([]:List Lfc.Raw).length 0):=Lib.cell_of_heap I6.out.box 3
        clear hce hr
        refine wp_region_held_drew (S:=fun W=>W.cell? ⟨B,3,none⟩=some (.slice none ([]:List Lfc.Raw).length 0)) (by kernel_rfl) z0 (fun hHeld=>?_)
        refine tk 0 ?_
        refine tk 1 ?_
        refine tk 2 ?_
        refine wpAnyH_ready (rs:=[3]) (by kernel_rfl) (by simp) (AllReadyH.cons rfl (fun K hK=>?_) AllReadyH.nil)
        go_simp
        go_at_call 35
        refine CE.out.mono ?_
        rintro e w9⟨rfl,o9⟩
        rw[HFE.out]
        exact⟨rfl,rfl,I6.out.oth.trans ((Oth.refl _ _).drew.trans o9)⟩
      | ok u k9 =>
        rw[hr] at hce
        have CE:=Lib.hid hce
        obtain⟨hb1,hb2,hb3,_⟩:=Lfc.exprG_b HB.out hr
        have HRU:=Lib.hid hr
        have z0:w6.cell? ⟨B,3,none⟩=some (.slice none ([]:List Lfc.Raw).length 0):=Lib.cell_of_heap I6.out.box 3
        have hBW:=lt_of_block I6.out.box
        have hltB:=I6.out.lt
        clear hce hr
        go_region_law (first
          |(go_simp;go_at_call 35;refine CE.out.mono ?_;rintro e w9⟨⟨v,rfl,hv⟩,h9,o9⟩;obtain⟨k7,n7,p7,us7,A7,c7,ht7,rfl,hp7⟩:=TreeVP.parts4 hv;have q9:=o9.heap I6.out.box (by omega);have y9:w9.cell? ⟨B,3,none⟩=some (.slice none ([]:List Lfc.Raw).length 0):=Lib.cell_of_heap q9 3;have y9a:∀o,(w9.alloc o).cell? ⟨B,3,none⟩=some (.slice none ([]:List Lfc.Raw).length 0):=fun o=>Lib.cell_of_heap ((Lib.alloc_old _ _ _ (lt_of_block q9)).trans q9) 3;have hown9:=I6.out.own.drew.kept o9 (Or.inr (fun e=>by have:=(I6.out.own.lt P e).1;omega));have hs9:w6.heap.size≤w9.heap.size:=o9.size;have hs9':B+1≤w9.heap.size:=(by omega))
          |(refine step_append_own_at _ (by rfl) _ _ 32 (by rfl) (B+1) 46 it (.agg #[.int .i64 0,S [],.int .i64 0,.slice none 0 0]) 4 56 Tryz.underlying32 hi hz0 hz1 hz2 rfl (by decide) _ _ _ (by rfl) (hown9.alloc _) ⟨w9.heap.size,0,none⟩ 1 1 [.int .i64 k7,S n7,.int .i64 p7,.slice A7 us7.length c7] (by rfl) (by rfl) (fun j u h=>cells_new w9 _ rfl [.int .i64 k7,S n7,.int .i64 p7,.slice A7 us7.length c7] _ j u h) oneCell4 HLM.1 HLM.2 (alloc_le hs9') ?_;intro v' w10 hown10 hg10 hloc10;obtain⟨A10,c10,rfl⟩:=own_form hown10;obtain⟨hr10,hfin⟩:=I6.out.push HW.out h9 (by omega) ((Oth.refl _ _).drew.trans o9) hp7 ((Below.refl _ _).alloc (Nat.le_refl _) _) hown10 hg10 (by simpa using hloc10);have y10:=(Lib.cell_of_heap hr10 3:w10.cell? ⟨B,3,none⟩=some (.slice none ([]:List Lfc.Raw).length 0));have f10:=Lib.frozen_of_heap hr10 3))
        all_goals
         have HNX:=Lib.hid hfin
         clear hfin hown9 hown10 hg10 hloc10 hr10 y10 f10 y9 y9a q9 hv hp7 h9 o9 z0
         go_wp2_with fail
         go_meet
         exact⟨[u],k9,A10,c10,_,by simp,Lib.hid (HIF.out _ _ HRU.out),HNX⟩
  case rest =>
  obtain⟨l,k3,A,c,xs,hl1,HL,I7⟩:=hcut
  clear I5 I6 CT2
  have HP3:Hid (p.bindG g kind end_ k=(p.punct k3 end_).then fun _ k3=>(p.exprG g k3).then fun u k4=>.ok ⟨.node kind n pos (l++[u]),true⟩ k4):=Lib.hid (by rw[HP2.out,HL.out];rfl)
  have hcp:=punct_any end_ wc I7.out.pw I7.out.le HK.out
  cases hpu:p.punct k3 end_ with
  |out=>exact absurd (by rw[HP3.out,hpu];rfl) HNE.out
  | err cc aa =>
    rw[hpu] at hcp
    have CQ:=Lib.hid hcp
    have HF:Hid (p.bindG g kind end_ k=.err cc aa):=Lib.hid (by rw[HP3.out,hpu];rfl)
    clear hcp hpu
    go_wp2_with (go_at_call 141;refine CQ.out.mono ?_;rintro e w9⟨rfl,o9⟩)
    rw[HF.out]
    exact⟨rfl,rfl,I7.out.oth.trans o9⟩
  | ok un k4 =>
    rw[hpu] at hcp
    have CQ:=Lib.hid hcp
    obtain⟨hp1,hp2,_⟩:=p.punct_ok hpu
    have HX:Hid (p.bindG g kind end_ k=(p.exprG g k4).then fun u k4=>.ok ⟨.node kind n pos (l++[u]),true⟩ k4):=Lib.hid (by rw[HP3.out,hpu];rfl)
    have hne2:p.exprG g k4≠.out:=PR.then_ne (by have:=HNE.out;rw[HX.out] at this;exact this)
    have HLM:=hlm4 (n:=l.length) (by omega)
    clear hcp hpu
    go_upto_region 9 with(go_at_call 141;refine CQ.out.mono ?_;rintro e w8⟨⟨v9,rfl,rfl⟩,h8,o8⟩)
    have I8:=Lib.hid (I7.out.step hP h8 (by omega) o8)
    clear h8 o8
    have hce:=HE.out P k4 G w8.drew (by have:=I8.out.le;omega) hne2 I8.out.pw.drew
    cases hr:p.exprG g k4 with
    |out=>exact absurd hr hne2
    | err cc aa =>
      rw[hr] at hce
      have CE:=Lib.hid hce
      have HFE:Hid (p.bindG g kind end_ k=.err cc aa):=Lib.hid (by rw[HX.out,hr];rfl)
      have z0:w8.cell? ⟨B,3,none⟩=some (.slice A l.length c):=Lib.cell_of_heap I8.out.box 3
      clear hce hr
      refine wp_region_held_drew (S:=fun W=>W.cell? ⟨B,3,none⟩=some (.slice A l.length c)) (by kernel_rfl) z0 (fun hHeld=>?_)
      refine tk 0 ?_
      refine tk 1 ?_
      refine tk 2 ?_
      refine wpAnyH_ready (rs:=[3]) (by kernel_rfl) (by simp) (AllReadyH.cons rfl (fun K hK=>?_) AllReadyH.nil)
      go_simp
      go_at_call 35
      refine CE.out.mono ?_
      rintro e w9⟨rfl,o9⟩
      rw[HFE.out]
      exact⟨rfl,rfl,I8.out.oth.trans ((Oth.refl _ _).drew.trans o9)⟩
    | ok u k9 =>
      rw[hr] at hce
      have CE:=Lib.hid hce
      obtain⟨hb1,hb2,hb3,_⟩:=Lfc.exprG_b HB.out hr
      have HRU:=Lib.hid hr
      have z0:w8.cell? ⟨B,3,none⟩=some (.slice A l.length c):=Lib.cell_of_heap I8.out.box 3
      have hBW:=lt_of_block I8.out.box
      have hltB:=I8.out.lt
      clear hce hr
      go_region_law (first
        |(go_simp;go_at_call 35;refine CE.out.mono ?_;rintro e w9⟨⟨v,rfl,hv⟩,h9,o9⟩;obtain⟨k7,n7,p7,us7,A7,c7,ht7,rfl,hp7⟩:=TreeVP.parts4 hv;have q9:=o9.heap I8.out.box (by omega);have y9:w9.cell? ⟨B,3,none⟩=some (.slice A l.length c):=Lib.cell_of_heap q9 3;have y9a:∀o,(w9.alloc o).cell? ⟨B,3,none⟩=some (.slice A l.length c):=fun o=>Lib.cell_of_heap ((Lib.alloc_old _ _ _ (lt_of_block q9)).trans q9) 3;have hown9:=I8.out.own.drew.kept o9 (Or.inr (fun e=>by have:=(I8.out.own.lt P e).1;omega));have hs9:w8.heap.size≤w9.heap.size:=o9.size;have hs9':B+1≤w9.heap.size:=(by omega))
        |(refine step_append_own_at _ (by rfl) _ _ 32 (by rfl) (B+1) 46 it (.agg #[.int .i64 0,S [],.int .i64 0,.slice none 0 0]) 4 56 Tryz.underlying32 hi hz0 hz1 hz2 rfl (by decide) _ _ _ (by rfl) (hown9.alloc _) ⟨w9.heap.size,0,none⟩ 1 1 [.int .i64 k7,S n7,.int .i64 p7,.slice A7 us7.length c7] (by rfl) (by rfl) (fun j u h=>cells_new w9 _ rfl [.int .i64 k7,S n7,.int .i64 p7,.slice A7 us7.length c7] _ j u h) oneCell4 HLM.1 HLM.2 (alloc_le hs9') ?_;intro v' w10 hown10 hg10 hloc10;obtain⟨A10,c10,rfl⟩:=own_form hown10;obtain⟨hr10,hfin⟩:=I8.out.push HW.out h9 (by omega) ((Oth.refl _ _).drew.trans o9) hp7 ((Below.refl _ _).alloc (Nat.le_refl _) _) hown10 hg10 (by simpa using hloc10);have y10:=(Lib.cell_of_heap hr10 3:w10.cell? ⟨B,3,none⟩=some (.slice A l.length c));have f10:=Lib.frozen_of_heap hr10 3))
      all_goals
       have HNX:=Lib.hid hfin
       clear hfin hown9 hown10 hg10 hloc10 hr10 y10 f10 y9 y9a q9 hv hp7 h9 o9 z0
       have HFF:Hid (p.bindG g kind end_ k=.ok ⟨.node kind n pos (l++[u]),true⟩ k9):=Lib.hid (by rw[HX.out,HRU.out];rfl)
       obtain⟨w11,hw11⟩:∃w11,w10.setCell ⟨B,3,none⟩ (.slice A10 (l.length+1) c10)=w11:=⟨_,rfl⟩
       rw[hw11] at HNX
       rw[hw11]
       clear hw11
       have hl4:(l++[u]).length=l.length+1:=by simp
       obtain⟨z0,z1,z2,z3⟩:=cells4 HNX.out.box
       rw[hl4] at z3
       have HL4:=Lib.hid hl4
       clear hl4
       have HT:=Lib.hid (HNX.out.tree (by simp))
       have hpw:=HNX.out.pw
       have hB11:=lt_of_block HNX.out.box
       obtain⟨s1,s2,s3,s4,s5,g1,g2,g3,g4,g5,⟨y0,y1,y2,y3,y4⟩,⟨f0,f1,f2,f3,f4⟩,hq,ho⟩:=put5p HNX.out.res (.int .i64 kind) (S n) (.int .i64 (pos:Int)) (.slice A10 (l.length+1) c10) (.bool true)
       have O9:=Lib.hid (HNX.out.oth.over ho (Nat.le_refl _))
       have HP9:Hid (PW s5 P G p k9):=Lib.hid (HW.out.to O9.out ((ho.block P hpw.lt (fun e=>by have:=Option.some.inj e;omega)).trans hpw.1))
       have HT9:Hid (TreeP (fun b=>w.heap.size≤b) s5 (.node kind n pos (l++[u])) (.int .i64 kind) (S n) (.int .i64 (pos:Int)) (.slice A10 (l++[u]).length c10)):=Lib.hid (TreeP.keep (q:=fun b=>w.heap.size<b) (fun b hb hlt=>ho.block b hlt (fun e=>by have:=Option.some.inj e;omega)) ho.size (fun b _ hb=>by omega) _ _ _ _ _ HT.out)
       have HQ:=Lib.hid hq
       clear hq ho hpw
       go_wp2_with fail
       refine bodyPost_ret (results_opdP rfl _ _ _ _ _ _ _ _ rfl HQ.out) rfl ?_
       rw[HFF.out]
       exact⟨⟨_,rfl,kind,n,_,l++[u],A10,c10,by rw[HL4.out],rfl,rfl,HT9.out⟩,HP9.out,O9.out⟩
end Go.Proofs.YthajalgkjonaaaaGreatDoor
