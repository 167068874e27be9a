/- Parts of the proof that no input makes the law false: PaOrd. -/
import Derived.Test.YthajalgkjonaaaaGreatDoorQxAW
set_option linter.unusedVariables false
set_option linter.unusedSimpArgs false
namespace Go.Proofs.YthajalgkjonaaaaGreatDoor
open Go.RowKit
set_option maxRecDepth 100000 in
set_option maxHeartbeats 8000000 in
theorem order_of(p:Lfc.PE)(ok:POk p):∀(f o:Nat),f+o=128→o<128→∀(P k:Nat)(G:Hd)(w:World),k≤p.toks.length→PW w P G p k →
  Calls Tryz.prog 179 #[.pointer (some ⟨P,0,none⟩),.int .i64 (o:Int)] w (PRes P G p w (OrdR w) (p.orderF f o k))
 |0,o,hf,ho=>by omega
 | f + 1, o, hf, ho => fun P k G w hk h => by
  have IH:Hid (o+1<128→∀(k:Nat)(W:World),k≤p.toks.length→PW W P G p k→Calls Tryz.prog 179 #[.pointer (some ⟨P,0,none⟩),.int .i64 ((o:Int)+1)] W (PRes P G p W (OrdR W) (p.orderF f (o+1) k))):=Lib.hid fun ho1 k W hk hW=>order_of p ok f (o+1) (by omega) ho1 P k G W hk hW
  have hlen:=ok.len
  have OK:=Lib.hid ok
  have HP:=Lib.hid h.lt
  have HPW:=Lib.hid h
  have hf2:=tok_f2
  obtain⟨iz,hi,hz0,hz1,hz2⟩:=ord_infoP
  obtain⟨M,hm⟩:∃M,p.orderF (f+1) o k=M:=⟨_,rfl⟩
  rw[hm]
  have HNE:Hid (M≠.out):=Lib.hid (by have:=(Lfc.fair_orderF p (f+1) o k (by omega) hk ho).1;rw[hm] at this;exact this)
  rw[Lfc.PE.orderF] at hm
  have HR:=Lib.hid hm.symm
  obtain⟨w0,hw0⟩:∃w0,w.alloc (.cells #[.int .i64 0,.int .i64 0,.slice none 0 0] 40)=w0:=⟨_,rfl⟩
  have b0:Below w.heap.size w w0:=by rw[←hw0];exact(Below.refl _ _).alloc (Nat.le_refl _) _
  have q0:w0.heap[w.heap.size]?=some (.cells #[.int .i64 0,.int .i64 0,.slice none 0 0] 40 (0,0)):=by rw[←hw0];exact heap_alloc_new _ _
  have B0:=Lib.hid b0
  have Q0:=Lib.hid q0
  have HPW0:=Lib.hid (h.below b0)
  have BX:Hid (BxF w w0 P w.heap.size G p k #[.int .i64 0,.int .i64 0,.slice none 0 0] 40):=Lib.hid (by rw[←hw0];exact BxF.start h _ _)
  have CP:=Lib.hid (peek_any w0 (h.below b0) hk ok)
  clear b0 q0
  have CI:Hid (∀s W,PW W P G p k→Calls Tryz.prog 140 #[.pointer (some ⟨P,0,none⟩),.int .i64 2,S s] W fun e w'=>e=.returned (.bool (p.is k 2 s))∧Below W.heap.size W w'):=Lib.hid fun s W hW=>is_any 2 s W hW hk ok
  generalize (p.pk k).pos=at_ at *
  have FR:=Lfc.fair_number p k 1 64
  have CN:Hid (∀W,PW W P G p k→Calls Tryz.prog 180 #[.pointer (some ⟨P,0,none⟩),.int .i64 1,.int .i64 64] W (PRes P G p W (fun n v _=>v=.int .i64 n) (p.number k 1 64))):=Lib.hid fun W hW=>number_any 1 64 W hW hk ok
  clear h hm
  cases z1:p.is k 2 [91]
  ·have C1:=Lib.hid (CI.out [91])
   have C2:=Lib.hid (CI.out [123])
   rw[z1] at C1
   have hm:=HR.out
   rw[if_neg (by rw[z1];decide)] at hm
   cases z2:p.is k 2 [123]
   ·rw[z2] at C2
    rw[if_neg (by rw[z2];decide)] at hm
    clear CI z1 z2
    rcases Lfc.PR.cases FR.1 with⟨cc,aa,hr⟩ | ⟨n,k1,hr⟩
    ·rw[hr] at CN hm
     have HM:=Lib.hid hm
     clear hm hr FR
     go_enter Tryz.func179,Tryz.ntmps179
     go_wp2_with (first
      |(go_at_call 63;refine CP.out.mono ?_;rintro e w1⟨rfl,b1⟩;have h1:=Lib.hid (HPW0.out.below b1))
      |(go_at_call 140;with_reducible refine(C1.out _ h1.out).mono ?_;rintro e w2⟨rfl,b2⟩;have h2:=Lib.hid (h1.out.below b2))
      |(go_at_call 140;with_reducible refine(C2.out _ h2.out).mono ?_;rintro e w3⟨rfl,b3⟩;have h3:=Lib.hid (h2.out.below b3))
      |(go_at_call 180;refine(CN.out _ h3.out).mono ?_;rintro e w4⟨rfl,o4⟩))
     rw[HM.out]
     exact⟨rfl,rfl,((((Oth.of_below B0.out).trans (Oth.of_below b1)).trans (Oth.of_below b2)).trans (Oth.of_below b3)).trans o4⟩
    ·rw[hr] at CN hm
     have HM:=Lib.hid hm
     have hk1:=(FR.2.2 _ _ hr).2
     clear hm hr FR
     go_enter Tryz.func179,Tryz.ntmps179
     go_wp2_with (first
      |(go_at_call 63;refine CP.out.mono ?_;rintro e w1⟨rfl,b1⟩;have h1:=Lib.hid (HPW0.out.below b1))
      |(go_at_call 140;with_reducible refine(C1.out _ h1.out).mono ?_;rintro e w2⟨rfl,b2⟩;have h2:=Lib.hid (h1.out.below b2))
      |(go_at_call 140;with_reducible refine(C2.out _ h2.out).mono ?_;rintro e w3⟨rfl,b3⟩;have h3:=Lib.hid (h2.out.below b3))
      |(go_at_call 180;refine(CN.out _ h3.out).mono ?_;rintro e w4⟨⟨v4,rfl,rfl⟩,h4,o4⟩;have F4:=Lib.hid (BX.out.step h4 ((((Oth.of_below b1).trans (Oth.of_below b2)).trans (Oth.of_below b3)).trans o4));obtain⟨s1,z1,ex1,ey1,ez1,FS1⟩:=F4.out.set HPW.out 0 (.int .i64 1) (by simp);obtain⟨s2,z2,ex2,ey2,ez2,FS2⟩:=FS1.out.set HPW.out 1 (.int .i64 n) (by simp);obtain⟨s3,z3,ex3,ey3,ez3,FS3⟩:=FS2.out.set HPW.out 2 (.slice none 0 0) (by simp)))
     rw[HM.out]
     have hbox:s3.heap[w.heap.size]?=some (.cells #[.int .i64 1,.int .i64 n,.slice none 0 0] 40 (0,0)):=by have:=FS3.out.box;simpa using this
     refine⟨rfl,_,results_cell_row rfl _ _ _ _ _ _ _ rfl hbox Tryz.underlying40 rfl ord_size,?_⟩
     exact⟨⟨_,rfl,_,_,_,rfl,by rw[OrdP];exact⟨rfl,rfl,none,0,rfl,Nat.le_refl _,fun h=>absurd rfl h⟩⟩,FS3.out.pw,FS3.out.oth⟩
   ·rw[z2] at C2
    rw[if_pos z2] at hm
    have hkl:=Lfc.is_ltk (by decide) z2
    clear CI z1 z2 CN FR HR
    by_cases hd:o+1=128
    ·rw[if_pos hd] at hm
     have HM:=Lib.hid hm
     have hod:(o:Int)=127:=by omega
     clear hm
     go_enter Tryz.func179,Tryz.ntmps179
     go_wp2_with (first | (go_at_call 63;refine CP.out.mono ?_;rintro e w1⟨rfl,b1⟩;have h1:=Lib.hid (HPW0.out.below b1)) | (go_at_call 140;with_reducible refine(C1.out _ h1.out).mono ?_;rintro e w2⟨rfl,b2⟩;have h2:=Lib.hid (h1.out.below b2)) | (go_at_call 140;with_reducible refine(C2.out _ h2.out).mono ?_;rintro e w3⟨rfl,b3⟩;have h3:=Lib.hid (h2.out.below b3)) | (go_at_call 66;refine(pfail_any _ _ _).mono ?_;rintro e w4⟨rfl,rfl⟩))
     rw[HM.out]
     exact⟨rfl,rfl,(Oth.of_below B0.out).trans (((Oth.of_below b1).trans (Oth.of_below b2)).trans (Oth.of_below b3))⟩
    ·rw[if_neg hd] at hm
     have HM:=Lib.hid hm
     have hod:(o:Int)+1<128:=by omega
     have hod2:((o:Int)+1 == 128)=false:=by simp;omega
     have IHO:=Lib.hid (IH.out (by omega))
     clear hm IH
     go_enter Tryz.func179,Tryz.ntmps179
     go_upto_region 10 with(first | (go_at_call 63;refine CP.out.mono ?_;rintro e w1⟨rfl,b1⟩;have h1:=Lib.hid (HPW0.out.below b1)) | (go_at_call 140;with_reducible refine(C1.out _ h1.out).mono ?_;rintro e w2⟨rfl,b2⟩;have h2:=Lib.hid (h1.out.below b2)) | (go_at_call 140;with_reducible refine(C2.out _ h2.out).mono ?_;rintro e w3⟨rfl,b3⟩;have h3:=Lib.hid (h2.out.below b3);obtain⟨_,x1,_,_,xf,_,_,_⟩:=h3.out.cells;have xf1:=xf 1;clear xf;obtain⟨w5,hw5⟩:∃w5,w3.setCell ⟨P,1,none⟩ (.int .i64 ((k:Int)+1))=w5:=⟨_,rfl⟩))
     have h5:=h3.out.step (k+1)
     rw[show((k+1:Nat):Int)=(k:Int)+1 by omega,hw5] at h5
     have o5:Oth P w3 w5:=by rw[←hw5];exact Oth.set _ _
     have F5:=Lib.hid (BX.out.step h5 ((((Oth.of_below b1).trans (Oth.of_below b2)).trans (Oth.of_below b3)).trans o5))
     have hX5:=lt_of_block F5.out.box
     obtain⟨X,hX⟩:∃X,w5.heap.size=X:=⟨_,rfl⟩
     obtain⟨w6,hw6⟩:∃w6,w5.alloc (.cells #[.int .i64 2,.int .i64 0,.slice none 0 0] 40)=w6:=⟨_,rfl⟩
     have b6:Below w5.heap.size w5 w6:=by rw[←hw6];exact(Below.refl _ _).alloc (Nat.le_refl _) _
     have q6:w6.heap[X]?=some (.cells #[.int .i64 2,.int .i64 0,.slice none 0 0] 40 (0,0)):=by rw[←hw6,←hX];exact heap_alloc_new _ _
     have I6:Hid (OrI w P G p (k+1) X 2 [] none 0 [] w6):=Lib.hid ⟨F5.out.pw.below b6,hkl,F5.out.oth.trans (Oth.of_below b6),by omega,(b6.block _ hX5).trans F5.out.box,q6,own_nil _ _ _ _,by rw[ORow]⟩
     have HX:Hid (w.heap.size<X):=Lib.hid (by omega)
     have H6:=Lib.hid hw6
     have H7:=Lib.hid hX
     clear h5 o5 F5 hX5 q6 b6 x1 xf1 BX CP HPW0 hw6 hX hw5 hw0
     go_wp2_with fail
     rw[H6.out,H7.out]
     clear H6 H7
     go_loopw [] (fun wr=>∃(ff kk:Nat)(l:List Lfc.Ord)(A:Option Addr)(c:Nat)(xs:List Value),l.length≤kk∧Hid (M=(Lfc.partsF p (p.orderF f (o+1)) [125] ff kk l).then fun l k1=>Lfc.PR.ok (Lfc.Ord.node 2 0 l) (k1+1))∧Hid (OrI w P G p kk X 2 l A c xs wr)) (fun wr=>30000-partLen X wr)
     case atStart=>exact⟨p.toks.length+1,k+1,[],none,0,[],by simp,HM,I6⟩
     case round =>
      clear I6 HM
      obtain⟨ff,kk,l,A,c,xs,hll,HM0,HI⟩:=hrel
      obtain _ | ff:=ff
      ·exact absurd HM0.out HNE.out
      have hm:=HM0.out
      rw[Lfc.partsF] at hm
      have hkk:=HI.out.le
      have c2:=(Lib.cell_of_heap HI.out.box 2:wr.cell? ⟨X,2,none⟩=some (.slice A l.length c))
      have CI:=Lib.hid (is_any 2 [125] wr HI.out.pw hkk OK.out)
      by_cases hex:l≠[]∧p.is kk 2 [125]
      ·rw[if_pos hex] at hm
       have HM:Hid (M=Lfc.PR.ok (Lfc.Ord.node 2 0 l) (kk+1)):=Lib.hid hm
       obtain⟨hl0,hq⟩:=hex
       have hkl:=Lfc.is_ltk (by decide) hq
       rw[hq] at CI
       have hlz:((l.length:Int) == 0)=false:=by
        have:=List.length_pos_iff.2 hl0
        simp;omega
       clear hm HM0 IHO
       as_aux_lemma =>
        go_wp2_with (go_at_call 140;refine CI.out.mono ?_;rintro e w7⟨rfl,b7⟩;have I7:=Lib.hid (HI.out.step HP.out (HI.out.pw.below b7) hkk (Oth.of_below b7));obtain⟨_,x1,_,_,xf,_,_,_⟩:=I7.out.pw.cells;have xf1:=xf 1;clear xf;obtain⟨w8,hw8⟩:∃w8,w7.setCell ⟨P,1,none⟩ (.int .i64 ((kk:Int)+1))=w8:=⟨_,rfl⟩;have I8:=Lib.hid (I7.out.next HP.out hkl hw8);have d0:=(Lib.cell_of_heap I8.out.box 0:w8.cell? ⟨X,0,none⟩=some (.int .i64 2));have d1:=(Lib.cell_of_heap I8.out.box 1:w8.cell? ⟨X,1,none⟩=some (.int .i64 0));have d2:=(Lib.cell_of_heap I8.out.box 2:w8.cell? ⟨X,2,none⟩=some (.slice A l.length c));obtain⟨s1,z1,ex1,ey1,ez1,FS1⟩:=(I8.out.result HP.out).set HPW.out 0 (.int .i64 2) (by simp);obtain⟨s2,z2,ex2,ey2,ez2,FS2⟩:=FS1.out.set HPW.out 1 (.int .i64 0) (by simp);obtain⟨s3,z3,ex3,ey3,ez3,FS3⟩:=FS2.out.set HPW.out 2 (.slice A l.length c) (by simp))
        rw[HM.out]
        have hbox:s3.heap[w.heap.size]?=some (.cells #[.int .i64 2,.int .i64 0,.slice A l.length c] 40 (0,0)):=by have:=FS3.out.box;simpa using this
        refine⟨rfl,_,results_cell_row rfl _ _ _ _ _ _ _ rfl hbox Tryz.underlying40 rfl ord_size,?_⟩
        exact⟨⟨_,rfl,_,_,_,rfl,I8.out.order3 ex1 ex2 ex3⟩,FS3.out.pw,FS3.out.oth⟩
      ·by_cases hl0:l=[]
       ·rw[if_neg hex] at hm
        have hlz:((l.length:Int) == 0)=true:=by rw[hl0];rfl
        have HM:Hid (M=(p.orderF f (o+1) kk).then fun x k1=>(Lfc.partsF p (p.orderF f (o+1)) [125] ff k1 (l++[x])).then fun l k1=>Lfc.PR.ok (Lfc.Ord.node 2 0 l) (k1+1)):=Lib.hid (by rw[hm];cases p.orderF f (o+1) kk <;> rfl)
        clear hm HM0 hl0 hex
        go_upto_region 12 with fail
        have FR:=Lfc.fair_orderF p f (o+1) kk (by omega) hkk (by omega)
        have CO:=IHO.out kk wr.drew hkk HI.out.pw.drew
        have z0:wr.cell? ⟨X,2,none⟩=some (.slice A l.length c):=Lib.cell_of_heap HI.out.box 2
        have z0d:wr.drew.cell? ⟨X,2,none⟩=some (.slice A l.length c):=z0
        have hXW:=lt_of_block HI.out.box
        have hXP:=HI.out.lt
        have hPw:=HP.out
        have HLN:=Lib.hid HI.out.len
        have hwo:IntKind.i64.wrap ((o:Int)+1)=(o:Int)+1:=IntWalk.i64_in _ (by omega)
        rcases Lfc.PR.cases FR.1 with⟨cc,aa,hr⟩ | ⟨x,k9,hr⟩
        ·rw[hr] at CO
         have CE:=Lib.hid CO
         rw[←hwo] at CO
         have CF:=Lib.hid CO
         have HF:Hid (M=.err cc aa):=Lib.hid (by rw[HM.out,hr];rfl)
         clear CO hr FR hwo
         as_aux_lemma =>
          refine wp_region_held_drew (S:=fun W=>W.cell? ⟨X,2,none⟩=some (.slice A l.length c)) (by kernel_rfl) z0d (fun hHeld=>?_)
          refine tk 0 ?_
          refine tk 1 ?_
          refine tk 2 ?_
          refine tk 3 ?_
          refine tk 4 ?_
          refine wpAnyH_ready (rs:=[5]) (by kernel_rfl) (by simp) (AllReadyH.cons rfl (fun K hK=>?_) AllReadyH.nil)
          go_simp
          go_at_call 179
          (with_reducible first | refine CE.out.mono ?_ | refine CF.out.mono ?_)
          rintro e w9⟨rfl,o9⟩
          go_simp
          go_wp2_with fail
          rw[HF.out]
          exact⟨rfl,rfl,HI.out.oth.trans ((Oth.refl _ _).drew.trans o9)⟩
        ·rw[hr] at CO
         have CE:=Lib.hid CO
         rw[←hwo] at CO
         have CF:=Lib.hid CO
         have hb9:=FR.2.2 _ _ hr
         have HM9:Hid (M=(Lfc.partsF p (p.orderF f (o+1)) [125] ff k9 (l++[x])).then fun l k1=>Lfc.PR.ok (Lfc.Ord.node 2 0 l) (k1+1)):=Lib.hid (by rw[HM.out,hr];rfl)
         have HLM:Hid (l.length+1≤maxLen∧(l.length+1)*40≤140737488355328):=Lib.hid ⟨by unfold maxLen;omega,by omega⟩
         clear CO hr FR hwo
         as_aux_lemma =>
          go_region_law (first
           |(go_simp;go_at_call 179;(with_reducible first | refine CE.out.mono ?_ | refine CF.out.mono ?_);rintro e w9⟨⟨v,rfl,hv⟩,h9,o9⟩;obtain⟨k7,a7,us7,A7,c7,ht7,rfl,hp7⟩:=OrdVP.parts3 hv;have q9:=o9.heap HI.out.box (by omega);have y9:w9.cell? ⟨X,2,none⟩=some (.slice A l.length c):=Lib.cell_of_heap q9 2;have y9a:∀ob,(w9.alloc ob).cell? ⟨X,2,none⟩=some (.slice A l.length c):=(fun ob=>(((Below.refl w9.heap.size w9).alloc (Nat.le_refl _) ob).cell (p:=⟨X,2,none⟩) (lt_of_block q9)).trans y9);have hown9:=HI.out.own.kept ((Oth.refl _ _).drew.trans o9) (Or.inr (fun e=>by have:=(HI.out.own.lt P e).1;omega));have hs9:X+1≤w9.heap.size:=(by have:=lt_of_block q9;omega))
           |(refine step_append_own_at _ (by rfl) _ _ 38 (by rfl) (X+1) 40 iz (.agg #[.int .i64 0,.int .i64 0,.slice none 0 0]) 3 40 Tryz.underlying38 hi hz0 hz1 hz2 rfl (by decide) _ _ _ (by rfl) (hown9.alloc _) ⟨w9.heap.size,0,none⟩ 1 1 [.int .i64 k7,.int .i64 a7,.slice A7 us7.length c7] (by rfl) (by rfl) (fun j u h=>cells_new w9 _ rfl [.int .i64 k7,.int .i64 a7,.slice A7 us7.length c7] _ j u h) (by intro u hu;simp at hu;rcases hu with rfl | rfl | rfl <;> rfl) HLM.out.1 HLM.out.2 (alloc_le hs9) ?_;intro v' w10 hown10 hg10 hloc10;obtain⟨A10,c10,rfl⟩:=own_form hown10;obtain⟨hr10,hfin⟩:=HI.out.push HPW.out h9 hb9.2 ((Oth.refl _ _).drew.trans o9) hp7 ((Below.refl _ _).alloc (Nat.le_refl _) _) hown10 hg10 (by simpa using hloc10);have y10:=(Lib.cell_of_heap hr10 2:w10.cell? ⟨X,2,none⟩=some (.slice A l.length c));have f10:=Lib.frozen_of_heap hr10 2))
          all_goals
           have HNX:=Lib.hid hfin
           clear hfin hown9 hown10 hg10 hloc10 y9 y9a q9 hv hp7 h9 o9 z0
           go_wp2_with fail
           go_roundw
           case rel=>exact⟨ff,k9,_,A10,c10,_,by have:=hb9.1;simp;omega,HM9,HNX⟩
           case measure=>rw[HNX.out.len,HLN.out];simp;omega
       ·have hq:p.is kk 2 [125]=false:=by
         rcases Bool.eq_false_or_eq_true (p.is kk 2 [125]) with h | h
         ·exact absurd ⟨hl0,h⟩ hex
         ·exact h
        rw[if_neg hex] at hm
        rw[hq] at CI
        have hlz:((l.length:Int) == 0)=false:=by
         have:=List.length_pos_iff.2 hl0
         simp;omega
        have HM:Hid (M=(p.orderF f (o+1) kk).then fun x k1=>(Lfc.partsF p (p.orderF f (o+1)) [125] ff k1 (l++[x])).then fun l k1=>Lfc.PR.ok (Lfc.Ord.node 2 0 l) (k1+1)):=Lib.hid (by rw[hm];cases p.orderF f (o+1) kk <;> rfl)
        clear hm HM0 hl0 hq hex
        go_upto_region 12 with(go_at_call 140;refine CI.out.mono ?_;rintro e w7⟨rfl,b7⟩;have I7:=Lib.hid (HI.out.step HP.out (HI.out.pw.below b7) hkk (Oth.of_below b7)))
        have FR:=Lfc.fair_orderF p f (o+1) kk (by omega) hkk (by omega)
        have CO:=IHO.out kk w7.drew hkk I7.out.pw.drew
        have z0:w7.cell? ⟨X,2,none⟩=some (.slice A l.length c):=Lib.cell_of_heap I7.out.box 2
        have z0d:w7.drew.cell? ⟨X,2,none⟩=some (.slice A l.length c):=z0
        have hXW:=lt_of_block I7.out.box
        have hXP:=I7.out.lt
        have hPw:=HP.out
        have HLN:=Lib.hid HI.out.len
        have hwo:IntKind.i64.wrap ((o:Int)+1)=(o:Int)+1:=IntWalk.i64_in _ (by omega)
        rcases Lfc.PR.cases FR.1 with⟨cc,aa,hr⟩ | ⟨x,k9,hr⟩
        ·rw[hr] at CO
         have CE:=Lib.hid CO
         rw[←hwo] at CO
         have CF:=Lib.hid CO
         have HF:Hid (M=.err cc aa):=Lib.hid (by rw[HM.out,hr];rfl)
         clear CO hr FR hwo
         as_aux_lemma =>
          refine wp_region_held_drew (S:=fun W=>W.cell? ⟨X,2,none⟩=some (.slice A l.length c)) (by kernel_rfl) z0d (fun hHeld=>?_)
          refine tk 0 ?_
          refine tk 1 ?_
          refine tk 2 ?_
          refine tk 3 ?_
          refine tk 4 ?_
          refine wpAnyH_ready (rs:=[5]) (by kernel_rfl) (by simp) (AllReadyH.cons rfl (fun K hK=>?_) AllReadyH.nil)
          go_simp
          go_at_call 179
          (with_reducible first | refine CE.out.mono ?_ | refine CF.out.mono ?_)
          rintro e w9⟨rfl,o9⟩
          go_simp
          go_wp2_with fail
          rw[HF.out]
          exact⟨rfl,rfl,I7.out.oth.trans ((Oth.refl _ _).drew.trans o9)⟩
        ·rw[hr] at CO
         have CE:=Lib.hid CO
         rw[←hwo] at CO
         have CF:=Lib.hid CO
         have hb9:=FR.2.2 _ _ hr
         have HM9:Hid (M=(Lfc.partsF p (p.orderF f (o+1)) [125] ff k9 (l++[x])).then fun l k1=>Lfc.PR.ok (Lfc.Ord.node 2 0 l) (k1+1)):=Lib.hid (by rw[HM.out,hr];rfl)
         have HLM:Hid (l.length+1≤maxLen∧(l.length+1)*40≤140737488355328):=Lib.hid ⟨by unfold maxLen;omega,by omega⟩
         clear CO hr FR hwo
         as_aux_lemma =>
          go_region_law (first
           |(go_simp;go_at_call 179;(with_reducible first | refine CE.out.mono ?_ | refine CF.out.mono ?_);rintro e w9⟨⟨v,rfl,hv⟩,h9,o9⟩;obtain⟨k7,a7,us7,A7,c7,ht7,rfl,hp7⟩:=OrdVP.parts3 hv;have q9:=o9.heap I7.out.box (by omega);have y9:w9.cell? ⟨X,2,none⟩=some (.slice A l.length c):=Lib.cell_of_heap q9 2;have y9a:∀ob,(w9.alloc ob).cell? ⟨X,2,none⟩=some (.slice A l.length c):=(fun ob=>(((Below.refl w9.heap.size w9).alloc (Nat.le_refl _) ob).cell (p:=⟨X,2,none⟩) (lt_of_block q9)).trans y9);have hown9:=I7.out.own.kept ((Oth.refl _ _).drew.trans o9) (Or.inr (fun e=>by have:=(I7.out.own.lt P e).1;omega));have hs9:X+1≤w9.heap.size:=(by have:=lt_of_block q9;omega))
           |(refine step_append_own_at _ (by rfl) _ _ 38 (by rfl) (X+1) 40 iz (.agg #[.int .i64 0,.int .i64 0,.slice none 0 0]) 3 40 Tryz.underlying38 hi hz0 hz1 hz2 rfl (by decide) _ _ _ (by rfl) (hown9.alloc _) ⟨w9.heap.size,0,none⟩ 1 1 [.int .i64 k7,.int .i64 a7,.slice A7 us7.length c7] (by rfl) (by rfl) (fun j u h=>cells_new w9 _ rfl [.int .i64 k7,.int .i64 a7,.slice A7 us7.length c7] _ j u h) (by intro u hu;simp at hu;rcases hu with rfl | rfl | rfl <;> rfl) HLM.out.1 HLM.out.2 (alloc_le hs9) ?_;intro v' w10 hown10 hg10 hloc10;obtain⟨A10,c10,rfl⟩:=own_form hown10;obtain⟨hr10,hfin⟩:=I7.out.push HPW.out h9 hb9.2 ((Oth.refl _ _).drew.trans o9) hp7 ((Below.refl _ _).alloc (Nat.le_refl _) _) hown10 hg10 (by simpa using hloc10);have y10:=(Lib.cell_of_heap hr10 2:w10.cell? ⟨X,2,none⟩=some (.slice A l.length c));have f10:=Lib.frozen_of_heap hr10 2))
          all_goals
           have HNX:=Lib.hid hfin
           clear hfin hown9 hown10 hg10 hloc10 y9 y9a q9 hv hp7 h9 o9 z0
           go_wp2_with fail
           go_roundw
           case rel=>exact⟨ff,k9,_,A10,c10,_,by have:=hb9.1;simp;omega,HM9,HNX⟩
           case measure=>rw[HNX.out.len,HLN.out];simp;omega
  ·have C1:=Lib.hid (CI.out [91])
   rw[z1] at C1
   have hm:=HR.out
   rw[if_pos z1] at hm
   have hkl:=Lfc.is_ltk (by decide) z1
   clear CI z1 CN FR HR
   by_cases hd:o+1=128
   ·rw[if_pos hd] at hm
    have HM:=Lib.hid hm
    have hod:(o:Int)=127:=by omega
    clear hm
    go_enter Tryz.func179,Tryz.ntmps179
    go_wp2_with (first | (go_at_call 63;refine CP.out.mono ?_;rintro e w1⟨rfl,b1⟩;have h1:=Lib.hid (HPW0.out.below b1)) | (go_at_call 140;with_reducible refine(C1.out _ h1.out).mono ?_;rintro e w2⟨rfl,b2⟩;have h2:=Lib.hid (h1.out.below b2)) | (go_at_call 66;refine(pfail_any _ _ _).mono ?_;rintro e w4⟨rfl,rfl⟩))
    rw[HM.out]
    exact⟨rfl,rfl,(Oth.of_below B0.out).trans ((Oth.of_below b1).trans (Oth.of_below b2))⟩
   ·rw[if_neg hd] at hm
    have HM:=Lib.hid hm
    have hod:(o:Int)+1<128:=by omega
    have hod2:((o:Int)+1 == 128)=false:=by simp;omega
    have IHO:=Lib.hid (IH.out (by omega))
    clear hm IH
    go_enter Tryz.func179,Tryz.ntmps179
    go_upto_region 10 with(first | (go_at_call 63;refine CP.out.mono ?_;rintro e w1⟨rfl,b1⟩;have h1:=Lib.hid (HPW0.out.below b1)) | (go_at_call 140;with_reducible refine(C1.out _ h1.out).mono ?_;rintro e w2⟨rfl,b2⟩;have h2:=Lib.hid (h1.out.below b2);obtain⟨_,x1,_,_,xf,_,_,_⟩:=h2.out.cells;have xf1:=xf 1;clear xf;obtain⟨w5,hw5⟩:∃w5,w2.setCell ⟨P,1,none⟩ (.int .i64 ((k:Int)+1))=w5:=⟨_,rfl⟩))
    have h5:=h2.out.step (k+1)
    rw[show((k+1:Nat):Int)=(k:Int)+1 by omega,hw5] at h5
    have o5:Oth P w2 w5:=by rw[←hw5];exact Oth.set _ _
    have F5:=Lib.hid (BX.out.step h5 (((Oth.of_below b1).trans (Oth.of_below b2)).trans o5))
    have hX5:=lt_of_block F5.out.box
    obtain⟨X,hX⟩:∃X,w5.heap.size=X:=⟨_,rfl⟩
    obtain⟨w6,hw6⟩:∃w6,w5.alloc (.cells #[.int .i64 3,.int .i64 0,.slice none 0 0] 40)=w6:=⟨_,rfl⟩
    have b6:Below w5.heap.size w5 w6:=by rw[←hw6];exact(Below.refl _ _).alloc (Nat.le_refl _) _
    have q6:w6.heap[X]?=some (.cells #[.int .i64 3,.int .i64 0,.slice none 0 0] 40 (0,0)):=by rw[←hw6,←hX];exact heap_alloc_new _ _
    have I6:Hid (OrI w P G p (k+1) X 3 [] none 0 [] w6):=Lib.hid ⟨F5.out.pw.below b6,hkl,F5.out.oth.trans (Oth.of_below b6),by omega,(b6.block _ hX5).trans F5.out.box,q6,own_nil _ _ _ _,by rw[ORow]⟩
    have HX:Hid (w.heap.size<X):=Lib.hid (by omega)
    have H6:=Lib.hid hw6
    have H7:=Lib.hid hX
    clear h5 o5 F5 hX5 q6 b6 x1 xf1 BX CP HPW0 hw6 hX hw5 hw0
    go_wp2_with fail
    rw[H6.out,H7.out]
    clear H6 H7
    go_loopw [] (fun wr=>∃(ff kk:Nat)(l:List Lfc.Ord)(A:Option Addr)(c:Nat)(xs:List Value),l.length≤kk∧Hid (M=(Lfc.partsF p (p.orderF f (o+1)) [93] ff kk l).then fun l k1=>Lfc.PR.ok (Lfc.Ord.node 3 0 l) (k1+1))∧Hid (OrI w P G p kk X 3 l A c xs wr)) (fun wr=>30000-partLen X wr)
    case atStart=>exact⟨p.toks.length+1,k+1,[],none,0,[],by simp,HM,I6⟩
    case round =>
     clear I6 HM
     obtain⟨ff,kk,l,A,c,xs,hll,HM0,HI⟩:=hrel
     obtain _ | ff:=ff
     ·exact absurd HM0.out HNE.out
     have hm:=HM0.out
     rw[Lfc.partsF] at hm
     have hkk:=HI.out.le
     have c2:=(Lib.cell_of_heap HI.out.box 2:wr.cell? ⟨X,2,none⟩=some (.slice A l.length c))
     have CI:=Lib.hid (is_any 2 [93] wr HI.out.pw hkk OK.out)
     by_cases hex:l≠[]∧p.is kk 2 [93]
     ·rw[if_pos hex] at hm
      have HM:Hid (M=Lfc.PR.ok (Lfc.Ord.node 3 0 l) (kk+1)):=Lib.hid hm
      obtain⟨hl0,hq⟩:=hex
      have hkl:=Lfc.is_ltk (by decide) hq
      rw[hq] at CI
      have hlz:((l.length:Int) == 0)=false:=by
       have:=List.length_pos_iff.2 hl0
       simp;omega
      clear hm HM0 IHO
      as_aux_lemma =>
       go_wp2_with (go_at_call 140;refine CI.out.mono ?_;rintro e w7⟨rfl,b7⟩;have I7:=Lib.hid (HI.out.step HP.out (HI.out.pw.below b7) hkk (Oth.of_below b7));obtain⟨_,x1,_,_,xf,_,_,_⟩:=I7.out.pw.cells;have xf1:=xf 1;clear xf;obtain⟨w8,hw8⟩:∃w8,w7.setCell ⟨P,1,none⟩ (.int .i64 ((kk:Int)+1))=w8:=⟨_,rfl⟩;have I8:=Lib.hid (I7.out.next HP.out hkl hw8);have d0:=(Lib.cell_of_heap I8.out.box 0:w8.cell? ⟨X,0,none⟩=some (.int .i64 3));have d1:=(Lib.cell_of_heap I8.out.box 1:w8.cell? ⟨X,1,none⟩=some (.int .i64 0));have d2:=(Lib.cell_of_heap I8.out.box 2:w8.cell? ⟨X,2,none⟩=some (.slice A l.length c));obtain⟨s1,z1,ex1,ey1,ez1,FS1⟩:=(I8.out.result HP.out).set HPW.out 0 (.int .i64 3) (by simp);obtain⟨s2,z2,ex2,ey2,ez2,FS2⟩:=FS1.out.set HPW.out 1 (.int .i64 0) (by simp);obtain⟨s3,z3,ex3,ey3,ez3,FS3⟩:=FS2.out.set HPW.out 2 (.slice A l.length c) (by simp))
       rw[HM.out]
       have hbox:s3.heap[w.heap.size]?=some (.cells #[.int .i64 3,.int .i64 0,.slice A l.length c] 40 (0,0)):=by have:=FS3.out.box;simpa using this
       refine⟨rfl,_,results_cell_row rfl _ _ _ _ _ _ _ rfl hbox Tryz.underlying40 rfl ord_size,?_⟩
       exact⟨⟨_,rfl,_,_,_,rfl,I8.out.order3 ex1 ex2 ex3⟩,FS3.out.pw,FS3.out.oth⟩
     ·by_cases hl0:l=[]
      ·rw[if_neg hex] at hm
       have hlz:((l.length:Int) == 0)=true:=by rw[hl0];rfl
       have HM:Hid (M=(p.orderF f (o+1) kk).then fun x k1=>(Lfc.partsF p (p.orderF f (o+1)) [93] ff k1 (l++[x])).then fun l k1=>Lfc.PR.ok (Lfc.Ord.node 3 0 l) (k1+1)):=Lib.hid (by rw[hm];cases p.orderF f (o+1) kk <;> rfl)
       clear hm HM0 hl0 hex
       go_upto_region 12 with fail
       have FR:=Lfc.fair_orderF p f (o+1) kk (by omega) hkk (by omega)
       have CO:=IHO.out kk wr.drew hkk HI.out.pw.drew
       have z0:wr.cell? ⟨X,2,none⟩=some (.slice A l.length c):=Lib.cell_of_heap HI.out.box 2
       have z0d:wr.drew.cell? ⟨X,2,none⟩=some (.slice A l.length c):=z0
       have hXW:=lt_of_block HI.out.box
       have hXP:=HI.out.lt
       have hPw:=HP.out
       have HLN:=Lib.hid HI.out.len
       have hwo:IntKind.i64.wrap ((o:Int)+1)=(o:Int)+1:=IntWalk.i64_in _ (by omega)
       rcases Lfc.PR.cases FR.1 with⟨cc,aa,hr⟩ | ⟨x,k9,hr⟩
       ·rw[hr] at CO
        have CE:=Lib.hid CO
        rw[←hwo] at CO
        have CF:=Lib.hid CO
        have HF:Hid (M=.err cc aa):=Lib.hid (by rw[HM.out,hr];rfl)
        clear CO hr FR hwo
        as_aux_lemma =>
         refine wp_region_held_drew (S:=fun W=>W.cell? ⟨X,2,none⟩=some (.slice A l.length c)) (by kernel_rfl) z0d (fun hHeld=>?_)
         refine tk 0 ?_
         refine tk 1 ?_
         refine tk 2 ?_
         refine tk 3 ?_
         refine tk 4 ?_
         refine wpAnyH_ready (rs:=[5]) (by kernel_rfl) (by simp) (AllReadyH.cons rfl (fun K hK=>?_) AllReadyH.nil)
         go_simp
         go_at_call 179
         (with_reducible first | refine CE.out.mono ?_ | refine CF.out.mono ?_)
         rintro e w9⟨rfl,o9⟩
         go_simp
         go_wp2_with fail
         rw[HF.out]
         exact⟨rfl,rfl,HI.out.oth.trans ((Oth.refl _ _).drew.trans o9)⟩
       ·rw[hr] at CO
        have CE:=Lib.hid CO
        rw[←hwo] at CO
        have CF:=Lib.hid CO
        have hb9:=FR.2.2 _ _ hr
        have HM9:Hid (M=(Lfc.partsF p (p.orderF f (o+1)) [93] ff k9 (l++[x])).then fun l k1=>Lfc.PR.ok (Lfc.Ord.node 3 0 l) (k1+1)):=Lib.hid (by rw[HM.out,hr];rfl)
        have HLM:Hid (l.length+1≤maxLen∧(l.length+1)*40≤140737488355328):=Lib.hid ⟨by unfold maxLen;omega,by omega⟩
        clear CO hr FR hwo
        as_aux_lemma =>
         go_region_law (first
          |(go_simp;go_at_call 179;(with_reducible first | refine CE.out.mono ?_ | refine CF.out.mono ?_);rintro e w9⟨⟨v,rfl,hv⟩,h9,o9⟩;obtain⟨k7,a7,us7,A7,c7,ht7,rfl,hp7⟩:=OrdVP.parts3 hv;have q9:=o9.heap HI.out.box (by omega);have y9:w9.cell? ⟨X,2,none⟩=some (.slice A l.length c):=Lib.cell_of_heap q9 2;have y9a:∀ob,(w9.alloc ob).cell? ⟨X,2,none⟩=some (.slice A l.length c):=(fun ob=>(((Below.refl w9.heap.size w9).alloc (Nat.le_refl _) ob).cell (p:=⟨X,2,none⟩) (lt_of_block q9)).trans y9);have hown9:=HI.out.own.kept ((Oth.refl _ _).drew.trans o9) (Or.inr (fun e=>by have:=(HI.out.own.lt P e).1;omega));have hs9:X+1≤w9.heap.size:=(by have:=lt_of_block q9;omega))
          |(refine step_append_own_at _ (by rfl) _ _ 38 (by rfl) (X+1) 40 iz (.agg #[.int .i64 0,.int .i64 0,.slice none 0 0]) 3 40 Tryz.underlying38 hi hz0 hz1 hz2 rfl (by decide) _ _ _ (by rfl) (hown9.alloc _) ⟨w9.heap.size,0,none⟩ 1 1 [.int .i64 k7,.int .i64 a7,.slice A7 us7.length c7] (by rfl) (by rfl) (fun j u h=>cells_new w9 _ rfl [.int .i64 k7,.int .i64 a7,.slice A7 us7.length c7] _ j u h) (by intro u hu;simp at hu;rcases hu with rfl | rfl | rfl <;> rfl) HLM.out.1 HLM.out.2 (alloc_le hs9) ?_;intro v' w10 hown10 hg10 hloc10;obtain⟨A10,c10,rfl⟩:=own_form hown10;obtain⟨hr10,hfin⟩:=HI.out.push HPW.out h9 hb9.2 ((Oth.refl _ _).drew.trans o9) hp7 ((Below.refl _ _).alloc (Nat.le_refl _) _) hown10 hg10 (by simpa using hloc10);have y10:=(Lib.cell_of_heap hr10 2:w10.cell? ⟨X,2,none⟩=some (.slice A l.length c));have f10:=Lib.frozen_of_heap hr10 2))
         all_goals
          have HNX:=Lib.hid hfin
          clear hfin hown9 hown10 hg10 hloc10 y9 y9a q9 hv hp7 h9 o9 z0
          go_wp2_with fail
          go_roundw
          case rel=>exact⟨ff,k9,_,A10,c10,_,by have:=hb9.1;simp;omega,HM9,HNX⟩
          case measure=>rw[HNX.out.len,HLN.out];simp;omega
      ·have hq:p.is kk 2 [93]=false:=by
        rcases Bool.eq_false_or_eq_true (p.is kk 2 [93]) with h | h
        ·exact absurd ⟨hl0,h⟩ hex
        ·exact h
       rw[if_neg hex] at hm
       rw[hq] at CI
       have hlz:((l.length:Int) == 0)=false:=by
        have:=List.length_pos_iff.2 hl0
        simp;omega
       have HM:Hid (M=(p.orderF f (o+1) kk).then fun x k1=>(Lfc.partsF p (p.orderF f (o+1)) [93] ff k1 (l++[x])).then fun l k1=>Lfc.PR.ok (Lfc.Ord.node 3 0 l) (k1+1)):=Lib.hid (by rw[hm];cases p.orderF f (o+1) kk <;> rfl)
       clear hm HM0 hl0 hq hex
       go_upto_region 12 with(go_at_call 140;refine CI.out.mono ?_;rintro e w7⟨rfl,b7⟩;have I7:=Lib.hid (HI.out.step HP.out (HI.out.pw.below b7) hkk (Oth.of_below b7)))
       have FR:=Lfc.fair_orderF p f (o+1) kk (by omega) hkk (by omega)
       have CO:=IHO.out kk w7.drew hkk I7.out.pw.drew
       have z0:w7.cell? ⟨X,2,none⟩=some (.slice A l.length c):=Lib.cell_of_heap I7.out.box 2
       have z0d:w7.drew.cell? ⟨X,2,none⟩=some (.slice A l.length c):=z0
       have hXW:=lt_of_block I7.out.box
       have hXP:=I7.out.lt
       have hPw:=HP.out
       have HLN:=Lib.hid HI.out.len
       have hwo:IntKind.i64.wrap ((o:Int)+1)=(o:Int)+1:=IntWalk.i64_in _ (by omega)
       rcases Lfc.PR.cases FR.1 with⟨cc,aa,hr⟩ | ⟨x,k9,hr⟩
       ·rw[hr] at CO
        have CE:=Lib.hid CO
        rw[←hwo] at CO
        have CF:=Lib.hid CO
        have HF:Hid (M=.err cc aa):=Lib.hid (by rw[HM.out,hr];rfl)
        clear CO hr FR hwo
        as_aux_lemma =>
         refine wp_region_held_drew (S:=fun W=>W.cell? ⟨X,2,none⟩=some (.slice A l.length c)) (by kernel_rfl) z0d (fun hHeld=>?_)
         refine tk 0 ?_
         refine tk 1 ?_
         refine tk 2 ?_
         refine tk 3 ?_
         refine tk 4 ?_
         refine wpAnyH_ready (rs:=[5]) (by kernel_rfl) (by simp) (AllReadyH.cons rfl (fun K hK=>?_) AllReadyH.nil)
         go_simp
         go_at_call 179
         (with_reducible first | refine CE.out.mono ?_ | refine CF.out.mono ?_)
         rintro e w9⟨rfl,o9⟩
         go_simp
         go_wp2_with fail
         rw[HF.out]
         exact⟨rfl,rfl,I7.out.oth.trans ((Oth.refl _ _).drew.trans o9)⟩
       ·rw[hr] at CO
        have CE:=Lib.hid CO
        rw[←hwo] at CO
        have CF:=Lib.hid CO
        have hb9:=FR.2.2 _ _ hr
        have HM9:Hid (M=(Lfc.partsF p (p.orderF f (o+1)) [93] ff k9 (l++[x])).then fun l k1=>Lfc.PR.ok (Lfc.Ord.node 3 0 l) (k1+1)):=Lib.hid (by rw[HM.out,hr];rfl)
        have HLM:Hid (l.length+1≤maxLen∧(l.length+1)*40≤140737488355328):=Lib.hid ⟨by unfold maxLen;omega,by omega⟩
        clear CO hr FR hwo
        as_aux_lemma =>
         go_region_law (first
          |(go_simp;go_at_call 179;(with_reducible first | refine CE.out.mono ?_ | refine CF.out.mono ?_);rintro e w9⟨⟨v,rfl,hv⟩,h9,o9⟩;obtain⟨k7,a7,us7,A7,c7,ht7,rfl,hp7⟩:=OrdVP.parts3 hv;have q9:=o9.heap I7.out.box (by omega);have y9:w9.cell? ⟨X,2,none⟩=some (.slice A l.length c):=Lib.cell_of_heap q9 2;have y9a:∀ob,(w9.alloc ob).cell? ⟨X,2,none⟩=some (.slice A l.length c):=(fun ob=>(((Below.refl w9.heap.size w9).alloc (Nat.le_refl _) ob).cell (p:=⟨X,2,none⟩) (lt_of_block q9)).trans y9);have hown9:=I7.out.own.kept ((Oth.refl _ _).drew.trans o9) (Or.inr (fun e=>by have:=(I7.out.own.lt P e).1;omega));have hs9:X+1≤w9.heap.size:=(by have:=lt_of_block q9;omega))
          |(refine step_append_own_at _ (by rfl) _ _ 38 (by rfl) (X+1) 40 iz (.agg #[.int .i64 0,.int .i64 0,.slice none 0 0]) 3 40 Tryz.underlying38 hi hz0 hz1 hz2 rfl (by decide) _ _ _ (by rfl) (hown9.alloc _) ⟨w9.heap.size,0,none⟩ 1 1 [.int .i64 k7,.int .i64 a7,.slice A7 us7.length c7] (by rfl) (by rfl) (fun j u h=>cells_new w9 _ rfl [.int .i64 k7,.int .i64 a7,.slice A7 us7.length c7] _ j u h) (by intro u hu;simp at hu;rcases hu with rfl | rfl | rfl <;> rfl) HLM.out.1 HLM.out.2 (alloc_le hs9) ?_;intro v' w10 hown10 hg10 hloc10;obtain⟨A10,c10,rfl⟩:=own_form hown10;obtain⟨hr10,hfin⟩:=I7.out.push HPW.out h9 hb9.2 ((Oth.refl _ _).drew.trans o9) hp7 ((Below.refl _ _).alloc (Nat.le_refl _) _) hown10 hg10 (by simpa using hloc10);have y10:=(Lib.cell_of_heap hr10 2:w10.cell? ⟨X,2,none⟩=some (.slice A l.length c));have f10:=Lib.frozen_of_heap hr10 2))
         all_goals
          have HNX:=Lib.hid hfin
          clear hfin hown9 hown10 hg10 hloc10 y9 y9a q9 hv hp7 h9 o9 z0
          go_wp2_with fail
          go_roundw
          case rel=>exact⟨ff,k9,_,A10,c10,_,by have:=hb9.1;simp;omega,HM9,HNX⟩
          case measure=>rw[HNX.out.len,HLN.out];simp;omega
end Go.Proofs.YthajalgkjonaaaaGreatDoor
