/- Parts of the proof that no input makes the law false: OrUp, OrChain, OrArg, OrBoth, OrGrow, OrConcat, OrRel, OrForm. -/
import Derived.Deep.RegionHeld3
import Derived.Lib.AppendZerosOnto
import Derived.Laws.AppendOwnNone
import Derived.Test.YtadjpadieljjlaaGreatWvAE
set_option linter.unusedVariables false
set_option linter.unusedSimpArgs false
set_option maxRecDepth 100000
set_option maxHeartbeats 32000000
namespace Go.Proofs.YtadjpadieljjlaaGreat
section
open Go.RowKit _root_.Lfc
theorem oUp_any(Bx:Nat)(ks:List Int)(A0:Option Addr)(c0:Nat)(t u:Raw)(vt vu:Value)(w:World)(hks:ks.length<=1000000)(ht:t.size<=1000000)(hu:u.size<=1000000)(hA0:IntsO w A0 ks)(hv:TreeV w t vt)(hv':TreeV w u vu)(hx:zc w Bx 1 (.slice A0 ks.length c0))(hB:Bx<w.heap.size) :
  Calls Tryz.prog 163 #[.pointer (some ⟨Bx,0,none⟩),vt,vu] w (EdgeAns w (Raw.up ks t u)):=by
 have HV:=zH hv;have HV':=zH hv';obtain⟨A,c,kd,nm,ps,xs,hT,rfl⟩:∃A c kd nm ps xs,t=.node kd nm ps xs/\vt=.agg (zT kd nm ps A xs c):=by
  obtain⟨kd,nm,ps,ts⟩:=t;obtain⟨A,c,rfl,hc,hA⟩:=hv.open_;exact⟨A,c,kd,nm,ps,ts,rfl,rfl⟩
 obtain⟨A',c',kd',nm',ps',ys,hU,rfl⟩:∃A c kd nm ps xs,u=.node kd nm ps xs/\vu=.agg (zT kd nm ps A xs c):=by
  obtain⟨kd,nm,ps,ts⟩:=u;obtain⟨A,c,rfl,hc,hA⟩:=hv'.open_;exact⟨A,c,kd,nm,ps,ts,rfl,rfl⟩
 obtain⟨w1,hw1⟩:∃w1,w.alloc (.cells (zT kd nm ps A xs c) 51)=w1:=⟨_,rfl⟩;obtain⟨w2,hw2⟩:∃w2,w1.alloc (.cells (zT kd' nm' ps' A' ys c') 51)=w2:=⟨_,rfl⟩;obtain⟨w3,hw3⟩:∃w3,w2.alloc (.cells #[zI 0,zS] 183)=w3:=⟨_,rfl⟩;have b1:=zG hw1;have b2:=zG hw2;have b3:=zG hw3;have q1:=zQ hw1;have q2:=zQ hw2;have q3:=zQ hw3;have l1:=zL q1;have l2:=zL q2;have l3:=zL q3;have b13:zb w1 w3:=b2.trans (b3.mono (by omega));have b03:zb w w3:=b1.trans (b13.mono (by omega));have Q1:=zH ((b13.block _ l1).trans q1);have Q2:=zH ((b3.block _ l2).trans q2);have Q3:=zH q3;have B03:=zH b03;have s03:w.heap.size<=w3.heap.size:=by omega
 have HX:=zH ((b03.cell (p:=⟨Bx,1,none⟩) hB).trans hx);have SC:Hid (∀W,zb w3 W->zc W Bx 1 (.slice A0 ks.length c0)/\(zc W w.heap.size 0 (zI kd)/\zc W w.heap.size 1 (S nm)/\zc W w.heap.size 2 (zI ps)/\zc W w.heap.size 3 (.slice A xs.length c))/\(zc W w1.heap.size 0 (zI kd')/\zc W w1.heap.size 1 (S nm')/\zc W w1.heap.size 2 (zI ps')/\zc W w1.heap.size 3 (.slice A' ys.length c'))):=zH (fun W hb=>by
  refine⟨(hb.cell (p:=⟨Bx,1,none⟩) (by simp only;omega)).trans HX.o,?_,?_⟩
  ·exact cells4t ((hb.block _ (by omega)).trans Q1.o)
  exact cells4t ((hb.block _ (by omega)).trans Q2.o))
 have CP:=zH (fun W (hb:zb w3 W)=>oPath_any t u _ _ ks A0 c0 W hks ht hu (hA0.below (b03.trans (hb.mono s03))) (HV.o.below (b03.trans (hb.mono s03))) (HV'.o.below (b03.trans (hb.mono s03))));have CO:=zH (fun W (hb:zb w3 W)=>ownTerm_upto _ hu u _ W (zN _) (HV'.o.below (b03.trans (hb.mono s03))));have HU:=zH hU;have HR:Hid (Raw.up ks t u=upOf u (Raw.path ks t u)):=zH rfl;have aa:∀W W',zb w3 W->zb W W'->zb w3 W':=fun W W' h h'=>h.trans (h'.mono h.size);have G0:zb w3 w3.drew:=(zB _ _).drew;rw[HR.o];generalize Raw.path ks t u=r at *;clear hT hU hv hv' hA0 b1 b2 b3 q1 q2 q3 b13 b03 hx HX HR;cases r with
 |none =>
  have CP:=zH (fun W hb=>(CP.o W hb).mono (fun e w' h=>h.no));go_enter Tryz.func163,Tryz.ntmps163;go_upto_region 1 with fail;clear hw1 hw2 hw3;go_region_held3 (fun W=>W.cell? ⟨Bx,1,none⟩=some (.slice A0 ks.length c0)/\(W.cell? ⟨w.heap.size,0,none⟩=some (zI kd)/\W.cell? ⟨w.heap.size,1,none⟩=some (S nm)/\W.cell? ⟨w.heap.size,2,none⟩=some (zI ps)/\W.cell? ⟨w.heap.size,3,none⟩=some (.slice A xs.length c))/\(W.cell? ⟨w1.heap.size,0,none⟩=some (zI kd')/\W.cell? ⟨w1.heap.size,1,none⟩=some (S nm')/\W.cell? ⟨w1.heap.size,2,none⟩=some (zI ps')/\W.cell? ⟨w1.heap.size,3,none⟩=some (.slice A' ys.length c')))
   (first | exact SC.o _ G0 | (refine SC.o _ ?_;assumption))
   ((go_at_call 20;((with_reducible refine(CP.o _ ?_).mono ?_));assumption;rintro e w5⟨rfl,b5'⟩;have b5:=aa _ _ (by assumption) b5'))
  obtain⟨s1,s2,g1,g2,⟨p0,p1⟩,⟨f0,f1⟩,hq2,hot⟩:=put2 ((b5.block _ l3).trans Q3.o) (zI 0) zS;have HQ:=zH hq2;have HZ:=zH (edge_ans (g:=upOf u none) (A:=none) (c:=0) (zN _) LinksP.nil B03.o b5 hot (by omega) s03);clear hq2 hot b5 b5' CO ;go_wp2_with fail;refine Zb (results_edge rfl _ _ _ _ _ rfl HQ.o) ?_;exact HZ.o
 |some q =>
  have CP:=zH (fun W hb=>(CP.o W hb).mono (fun e w' h=>h.yes));by_cases h0:q.length=0
  ·obtain rfl:q=[]:=Zz h0;clear h0;go_enter Tryz.func163,Tryz.ntmps163;go_upto_region 1 with fail;clear hw1 hw2 hw3;go_region_held3 (fun W=>W.cell? ⟨Bx,1,none⟩=some (.slice A0 ks.length c0)/\(W.cell? ⟨w.heap.size,0,none⟩=some (zI kd)/\W.cell? ⟨w.heap.size,1,none⟩=some (S nm)/\W.cell? ⟨w.heap.size,2,none⟩=some (zI ps)/\W.cell? ⟨w.heap.size,3,none⟩=some (.slice A xs.length c))/\(W.cell? ⟨w1.heap.size,0,none⟩=some (zI kd')/\W.cell? ⟨w1.heap.size,1,none⟩=some (S nm')/\W.cell? ⟨w1.heap.size,2,none⟩=some (zI ps')/\W.cell? ⟨w1.heap.size,3,none⟩=some (.slice A' ys.length c')))
    (first | exact SC.o _ G0 | (refine SC.o _ ?_;assumption))
    ((go_at_call 20;((with_reducible refine(CP.o _ ?_).mono ?_));assumption;rintro e w5⟨⟨Aq,cq,rfl,hcq,hq⟩,b5'⟩;have b5:=aa _ _ (by assumption) b5'))
   obtain⟨s1,s2,g1,g2,⟨p0,p1⟩,⟨f0,f1⟩,hq2,hot⟩:=put2 ((b5.block _ l3).trans Q3.o) (zI 1) zS;have HQ:=zH hq2;have HZ:=zH (edge_ans (g:=upOf u (some [])) (A:=none) (c:=0) (zN _) LinksP.nil B03.o b5 hot (by omega) s03);clear hq2 hot b5 b5' CO hq;go_wp2_with fail;refine Zb (results_edge rfl _ _ _ _ _ rfl HQ.o) ?_;exact HZ.o
  have hz:((q.length:Int) == 0)=false:=by simpa using h0
  have hz2:(q.length == 0)=false:=by simpa using h0
  have HG:Hid (upOf u (some q)=(2,[⟨1,u,q,0⟩])):=zH (upOf_some h0);clear h0;rw[HG.o];go_enter Tryz.func163,Tryz.ntmps163;go_upto_region 1 with fail;clear hw1 hw2 hw3;go_region_held3 (fun W=>W.cell? ⟨Bx,1,none⟩=some (.slice A0 ks.length c0)/\(W.cell? ⟨w.heap.size,0,none⟩=some (zI kd)/\W.cell? ⟨w.heap.size,1,none⟩=some (S nm)/\W.cell? ⟨w.heap.size,2,none⟩=some (zI ps)/\W.cell? ⟨w.heap.size,3,none⟩=some (.slice A xs.length c))/\(W.cell? ⟨w1.heap.size,0,none⟩=some (zI kd')/\W.cell? ⟨w1.heap.size,1,none⟩=some (S nm')/\W.cell? ⟨w1.heap.size,2,none⟩=some (zI ps')/\W.cell? ⟨w1.heap.size,3,none⟩=some (.slice A' ys.length c')))
   (first | exact SC.o _ G0 | (refine SC.o _ ?_;assumption))
   ((go_at_call 20;((with_reducible refine(CP.o _ ?_).mono ?_));assumption;rintro e w5⟨⟨Aq,cq,rfl,hcq,hq⟩,b5'⟩;have b5:=aa _ _ (by assumption) b5'))
  have HI:=zH hq;obtain⟨z0,z1,z2,z3⟩:=cells4t ((b5.block _ (by omega)).trans Q2.o);have CO:=zH (CO.o _ b5);go_wp2_with fail;refine CO.o.mono ?_;rintro e w6⟨⟨v6,rfl,hv6⟩,b6⟩;rw[HU.o] at hv6;obtain⟨A6,c6,rfl,hp6⟩:=hv6.openT;have hv7:=hv6;rw[<-HU.o] at hv7;obtain⟨w7,hw7⟩:∃w7,w6.alloc (.cells #[zI 1,zI kd',S nm',zI ps',.slice A6 ys.length c6,.slice Aq q.length cq,zI 0] 93)=w7:=⟨_,rfl⟩;have b7:=zG hw7;have q7:=zQ hw7;have b67:zb w5 w7:=b6.trans (b7.mono b6.size);have b37:zb w3 w7:=b5.trans (b67.mono b5.size);have hl7:=link_one (q:=fun b=>w3.heap.size<=b) (x:=⟨1,u,q,0⟩) q7 (zR b5.size b6.size) HU.o hcq (HI.o.keep (fun b _ h=>b67.block b h) b67.size (fun b _ h=>h)) (hv7.keep (fun b _ h=>b7.block b h) b7.size (fun b _ h=>zR b5.size h));obtain⟨s1,s2,g1,g2,⟨p0,p1⟩,⟨f0,f1⟩,hq2,hot⟩:=put2 ((b37.block _ l3).trans Q3.o) (zI 2) (.slice (some ⟨w6.heap.size,0,none⟩) 1 1);have HQ:=zH hq2;have HZ:=zH (edge_ans (g:=(2,[⟨1,u,q,0⟩])) (A:=some ⟨w6.heap.size,0,none⟩) (c:=1) (zN _) (hl7.keep (fun b hb hlt=>hot.block b hlt (fun e=>by have e:=zO e;have hb:w3.heap.size<=b:=hb;omega)) hot.size (fun b _ hb=>zR s03 hb)) B03.o b37 hot (by omega) s03);clear hq2 hot b5 b5' b6 b7 b67 b37 hl7 hv7 hv6 hp6 hq z0 z1 z2 z3 CO q7;go_wp2_with fail;refine Zb (results_edge rfl _ _ _ _ _ rfl HQ.o) ?_;exact HZ.o
def ChainAns(w:World)(r:Option (List Link))(e:Ending)(w':World):Prop :=
 ((r=none∧e=.returned (.tuple #[.slice none 0 0,.bool false]))∨(∃l A c,r=some l∧e=.returned (.tuple #[.slice A l.length c,.bool true])∧l.length≤c∧LinksP (fun b=>w.heap.size≤b) w' A l))∧Below w.heap.size w w'
def Lfc.chain0(ks:List Int)(t u:Raw)(must:Int):Option (List Link):=if must≤(Raw.up ks t u).1 then some (Raw.up ks t u).2 else none
theorem reachedInfo:(Tryz.prog.info? 194).map (fun i=>(i.zero,i.size,i.bytes))=some (some (.agg #[.bool false,.slice none 0 0]),2,32):=by kernel_rfl
theorem makeReached0(W:World):(Instr.makeSlice 190 (.int .i64 0) (.int .i64 0)).run Tryz.prog W=.ok (.slice (some ⟨W.heap.size,0,none⟩) 0 0) (W.alloc (.cells #[] 194)):=by
 obtain⟨i0,hi,hz0,hz1,hz2⟩:=info_parts reachedInfo;have hr:=run_make (P:=Tryz.prog) W 190 194 i0 (.agg #[.bool false,.slice none 0 0]) Tryz.underlying190 hi hz0 .i64 .i64 0 0 (by omega) (by omega) (by rw[hz2];omega) (by omega);have hm:madeCells (Value.agg #[.bool false,.slice none 0 0]).cells (0*i0.size)=#[]:=by simp[madeCells]
 simp only[Int.toNat_zero] at hr;rw[hm] at hr;exact hr
theorem oChain0_any(Bx:Nat)(ks:List Int)(A0 F0:Option Addr)(c0 f0:Nat)(must:Int)(t u:Raw)(vt vu:Value)(w:World)(hks:ks.length<=1000000)(ht:t.size<=1000000)(hu:u.size<=1000000)(hA0:IntsO w A0 ks)(hv:TreeV w t vt)(hv':TreeV w u vu)(hx0:zc w Bx 0 (.slice F0 0 f0))(hx:zc w Bx 1 (.slice A0 ks.length c0))(hB:Bx<w.heap.size) :
  Calls Tryz.prog 161 #[.pointer (some ⟨Bx,0,none⟩),vt,vu,zI must] w (ChainAns w (Lfc.chain0 ks t u must)):=by
 have HV:=zH hv;have HV':=zH hv';obtain⟨A,c,kd,nm,ps,xs,hT,rfl⟩:∃A c kd nm ps xs,t=.node kd nm ps xs/\vt=.agg (zT kd nm ps A xs c):=by
  obtain⟨kd,nm,ps,ts⟩:=t;obtain⟨A,c,rfl,hc,hA⟩:=hv.open_;exact⟨A,c,kd,nm,ps,ts,rfl,rfl⟩
 obtain⟨A',c',kd',nm',ps',ys,hU,rfl⟩:∃A c kd nm ps xs,u=.node kd nm ps xs/\vu=.agg (zT kd nm ps A xs c):=by
  obtain⟨kd,nm,ps,ts⟩:=u;obtain⟨A,c,rfl,hc,hA⟩:=hv'.open_;exact⟨A,c,kd,nm,ps,ts,rfl,rfl⟩
 obtain⟨w1,hw1⟩:∃w1,w.alloc (.cells (zT kd nm ps A xs c) 51)=w1:=⟨_,rfl⟩;obtain⟨w2,hw2⟩:∃w2,w1.alloc (.cells (zT kd' nm' ps' A' ys c') 51)=w2:=⟨_,rfl⟩;have b1:=zG hw1;have b2:=zG hw2;have q1:=zQ hw1;have q2:=zQ hw2;have l1:=zL q1;have l2:=zL q2;have b02:zb w w2:=b1.trans (b2.mono (by omega));have B02:=zH b02;have s02:w.heap.size<=w2.heap.size:=by omega
 obtain⟨y0,y1,y2,y3⟩:=cells4t ((b2.block _ l1).trans q1);obtain⟨z0,z1,z2,z3⟩:=cells4t q2;have x0:=(b02.cell (p:=⟨Bx,0,none⟩) hB).trans hx0;have CU:=zH (oUp_any Bx ks A0 c0 t u _ _ w2 hks ht hu (hA0.below b02) (HV.o.below b02) (HV'.o.below b02) ((b02.cell (p:=⟨Bx,1,none⟩) hB).trans hx) (by omega));have hmk:=makeReached0;have HR:Hid (Lfc.chain0 ks t u must=if must<=(Raw.up ks t u).1 then some (Raw.up ks t u).2 else none):=zH rfl;rw[HR.o];obtain⟨g,hg⟩:∃g,Raw.up ks t u=g:=⟨_,rfl⟩;rw[hg] at CU ⊢;obtain⟨gs,gl⟩:=g;simp only;obtain⟨r,hr⟩:∃r,(if must<=gs then some gl else none)=r:=⟨_,rfl⟩;rw[hr];have HRY:Hid (must<=gs->r=some gl):=zH (fun h=>by rw[<-hr,if_pos h]);have HRN:Hid (¬must<=gs->r=none):=zH (fun h=>by rw[<-hr,if_neg h]);have hwr:IntKind.i64.wrap (2*0)=0:=by decide
 clear hT hU hv hv' hA0 b1 b2 q1 q2 b02 hx hx0 HR hg hr;go_enter Tryz.func161,Tryz.ntmps161;go_wp2_with fail;refine CU.o.mono ?_;rintro e w3⟨⟨A3,c3,rfl,hc3,hl3⟩,b3⟩;clear y0 y1 y2 y3 z0 z1 z2 z3 x0 CU hw1 hw2;obtain⟨w4,hw4⟩:∃w4,w3.alloc (.cells #[zI gs,.slice A3 gl.length c3] 183)=w4:=⟨_,rfl⟩;have b4:=zG hw4;have q4:=zQ hw4;have HW4:=zH hw4;have b24:zb w2 w4:=b3.trans (b4.mono b3.size);have BW4:=zH (B02.o.trans (b24.mono s02));obtain⟨y0,y1⟩:=cells2e q4;have l4:=zL q4;have HL4:=zH (hl3.below b4);have s34:=b24.size;clear hw4 b3 b4 q4 b24 hl3;go_upto_region 3 with fail;rw[HW4.o];by_cases hm:must<=gs
 ·have hd1:decide (gs≥must)=true:=Zt hm;have hd2:decide (must<=gs)=true:=Zt hm;have HZ:Hid (ChainAns w r (.returned (.tuple #[.slice A3 gl.length c3,.bool true])) w4):=zH ⟨.inr ⟨gl,A3,c3,HRY.o hm,rfl,hc3,HL4.o.keep (fun _ _ _=>rfl) (zN _) (fun b _ h=>zR s02 h)⟩,BW4.o⟩;clear hm HL4;go_wp2_with fail;refine Zb (results_tmp2 rfl _ _ _) ?_;exact HZ.o
 have hd1:decide (gs≥must)=false:=Zu hm;have hd2:decide (must<=gs)=false:=Zu hm;have HZ:Hid (r=none):=zH (HRN.o (by omega));clear hm HL4;obtain⟨w5,hw5⟩:∃w5,w4.alloc (.cells #[zS,zS,zS] 191)=w5:=⟨_,rfl⟩;have b5:=zG hw5;have q5:=zQ hw5;have I0:Hid (zb w4 w5/\∃cur,cur.size=3/\w5.heap[w4.heap.size]?=some (.cells cur 191 (0,0))):=zH ⟨b5,_,rfl,q5⟩;have hs5:=b5.size;clear b5 q5;go_wp2_with fail;go_loopw [40] (fun i wr=>∃k:Nat,k<=3/\i=zI (k:Int)/\Hid (zb w4 wr/\∃cur,cur.size=3/\wr.heap[w4.heap.size]?=some (.cells cur 191 (0,0)))) (fun i _=>3-(intOf i).toNat);case atStart=>exact⟨0,by omega,rfl,I0⟩
 clear I0 hw5;obtain⟨k,hk,rfl,HI⟩:=hrel;obtain⟨hbw,cur,hcs,hcur⟩:=HI.o;by_cases hlt:k<3
 ·have hi0:=zP k;have hi1:(k:Int)<3:=by omega
  have hlr:=zL hcur;obtain⟨wa,hwa⟩:∃wa,wr.alloc (.cells #[] 194)=wa:=⟨_,rfl⟩;have ba:=zG hwa;have hca:=(ba.block _ hlr).trans hcur;have z0:zc wa w4.heap.size k cur[k]:=(zC hca k).trans (Array.getElem?_eq_getElem (by omega));have z1:=zF hca k;have HN:Hid (zb w4 (wa.setCell ⟨w4.heap.size,k,none⟩ (.slice (some ⟨wr.heap.size,0,none⟩) 0 0))/\∃cur,cur.size=3/\(wa.setCell ⟨w4.heap.size,k,none⟩ (.slice (some ⟨wr.heap.size,0,none⟩) 0 0)).heap[w4.heap.size]?=some (.cells cur 191 (0,0))):=zH (by
   refine⟨Oth.below (hbw.trans (ba.mono hbw.size)) (Oth.set wa _) (zN _) (zR hbw.size ba.size),cur.set! k (.slice (some ⟨wr.heap.size,0,none⟩) 0 0),by simp[hcs],?_⟩;simp[World.setCell,zM,hca])
  clear hbw hcur hca HI ba;go_wp2_with fail;go_roundw;case rel=>exact⟨k+1,by omega,by go_num,HN⟩
  case measure=>simp[intOf];omega
 obtain rfl:k=3:=by omega
 clear HI hcur;obtain⟨wq,hwq⟩:∃wq,wq=wr:=⟨_,rfl⟩;subst hwq;obtain⟨w6,hw6⟩:∃w6,wq.alloc (.cells #[zS] 192)=w6:=⟨_,rfl⟩;have b6:=zG hw6;have q6:=zQ hw6;have z6:=zC q6 0;simp at z6;have HZ6:Hid (ChainAns w r (.returned (.tuple #[zS,.bool false])) w6):=zH ⟨.inl ⟨HZ.o,rfl⟩,BW4.o.trans ((hbw.trans (b6.mono hbw.size)).mono BW4.o.size)⟩;clear hbw b6 q6;go_wp2_with fail;go_loopw [50] (fun i wx=>i=zI 0/\wx=w6) (fun i _=>0);case atStart=>exact⟨rfl,rfl⟩
 obtain⟨rfl,hwx⟩:=hrel;subst hwx;obtain⟨wy,hwy⟩:∃wy,wy=wr:=⟨_,rfl⟩;subst hwy;go_wp2_with fail;go_loopw [67] (fun _ wx=>wx=wy) (fun i _=>0);case atStart=>rfl
 subst hrel;go_wp2_with fail;refine Zb (results_tmp2 rfl _ _ _) ?_;exact HZ6.o
theorem two_alloc(w:World)(X Y:Obj):((w.alloc X).alloc Y).drew.heap[w.heap.size+1]?=some Y:=by
 have h:=zW (w.alloc X) Y;have e:(w.alloc X).heap.size=w.heap.size+1:=by simp
 rw[e] at h;exact h
theorem proof_size:(Tryz.prog.info? 39).map (·.size)=some 4:=by kernel_rfl
theorem results_proof2{fn:Func}{p u:Tmp}(h:fn.results=#[.cell p 39,.tmp u])(tmps:Array Value)(w:World)(g:Nat)(v0 v1 v2 v3:Value)(hp:tmps.getD p undef=.pointer (some ⟨g,0,none⟩))(hg:w.heap[g]?=some (.cells #[v0,v1,v2,v3] 39 (0,0))) :
  (results fn tmps).run Tryz.prog w=.ok (.tuple #[.agg #[v0,v1,v2,v3],tmps.getD u undef]) w:=by
 rw[results_cell_tmp h,hp];simp[asAddr,run_loadVar_row w g _ _ _ _ _ hg Tryz.underlying39 rfl proof_size,Result.andThen]
theorem results_proof{fn:Func}{p:Tmp}(h:fn.results=#[.cell p 39])(tmps:Array Value)(w:World)(g:Nat)(v0 v1 v2 v3:Value)(hp:tmps.getD p undef=.pointer (some ⟨g,0,none⟩))(hg:w.heap[g]?=some (.cells #[v0,v1,v2,v3] 39 (0,0))) :
  (results fn tmps).run Tryz.prog w=.ok (.agg #[v0,v1,v2,v3]) w :=
 results_cell_row h tmps w g _ _ _ _ hp hg Tryz.underlying39 rfl proof_size
def ArgAns(w:World)(r:Option (List Link))(e:Ending)(w':World):Prop :=
 ((r=none∧e=.returned (.tuple #[.agg #[.int .i64 0,.slice none 0 0,.slice none 0 0,.slice none 0 0],.bool false]))∨(∃l A c,r=some l∧e=.returned (.tuple #[.agg #[.int .i64 0,.slice none 0 0,.slice A l.length c,.slice none 0 0],.bool true])∧l.length≤c∧LinksP (fun b=>w.heap.size≤b) w' A l))∧Below w.heap.size w w'
structure ProvO(w:World)(Bx:Nat)(F0 A0 L R:Option Addr)(nf f0:Nat)(ks:List Int)(c0:Nat)(ts us:List Raw)(cl cr:Nat):Prop where
 lt:Bx<w.heap.size
 facts:w.cell? ⟨Bx,0,none⟩=some (.slice F0 nf f0)
 kinds:w.cell? ⟨Bx,1,none⟩=some (.slice A0 ks.length c0)
 left:w.cell? ⟨Bx,2,none⟩=some (.slice L ts.length cl)
 right:w.cell? ⟨Bx,3,none⟩=some (.slice R us.length cr)
 ks:IntsO w A0 ks
 ts:TreesAt w L ts
 us:TreesAt w R us
theorem ProvO.below{w w':World}{Bx:Nat}{F0 A0 L R:Option Addr}{nf f0:Nat}{ks:List Int}{c0:Nat}{ts us:List Raw}{cl cr:Nat}(h:ProvO w Bx F0 A0 L R nf f0 ks c0 ts us cl cr)(hb:Below w.heap.size w w'):ProvO w' Bx F0 A0 L R nf f0 ks c0 ts us cl cr :=
 ⟨Zl h.lt hb.size,(hb.cell (p:=⟨Bx,0,none⟩) h.lt).trans h.facts,(hb.cell (p:=⟨Bx,1,none⟩) h.lt).trans h.kinds,(hb.cell (p:=⟨Bx,2,none⟩) h.lt).trans h.left,(hb.cell (p:=⟨Bx,3,none⟩) h.lt).trans h.right,h.ks.below hb,h.ts.below hb,h.us.below hb⟩
theorem oArgProve_any(Bx:Nat)(F0 A0 L R:Option Addr)(f0:Nat)(ks:List Int)(c0:Nat)(ts us:List Raw)(cl cr i j:Nat)(w:World)(hks:ks.length<=1000000)(hP:ProvO w Bx F0 A0 L R 0 f0 ks c0 ts us cl cr)(hi:i<ts.length)(hj:j<us.length)(hsi:ts[i].size<=1000000)(hsj:us[j].size<=1000000)(hil:i<=1000000)(hjl:j<=1000000) :
  Calls Tryz.prog 158 #[.agg #[zI (i:Int),zI (j:Int)],.pointer (some ⟨Bx,0,none⟩),zI 1] w (ArgAns w (Lfc.chain0 ks ts[i] us[j] 2)):=by
 obtain⟨b,o,k1,n1,p1,xs,B,c1,rfl,hb,ht,d0,d1,d2,d3,hcu,hB,hT⟩:=hP.ts.at_ hi;obtain⟨b',o',k2,n2,p2,ys,B',c2,rfl,hb',ht',e0,e1,e2,e3,hcu',hB',hT'⟩:=hP.us.at_ hj;obtain⟨t,hT0⟩:∃t,ts[i]=t:=⟨_,rfl⟩;obtain⟨u,hU0⟩:∃u,us[j]=u:=⟨_,rfl⟩;rw[hT0] at hsi hT ⊢;rw[hU0] at hsj hT' ⊢;have HP:=zH hP;have HT:=zH hT;have HT':=zH hT';obtain⟨nts,hnts⟩:∃n,ts.length=n:=⟨_,rfl⟩;obtain⟨nus,hnus⟩:∃n,us.length=n:=⟨_,rfl⟩;obtain⟨w1,hw1⟩:∃w1,w.alloc (.cells #[zI (i:Int),zI (j:Int)] 123)=w1:=⟨_,rfl⟩;obtain⟨w2,hw2⟩:∃w2,w1.alloc (.cells #[zI 0,zS,zS,zS] 39)=w2:=⟨_,rfl⟩;have b1:=zG hw1;have b2:=zG hw2;have q1:=zQ hw1;have q2:=zQ hw2;have l1:=zL q1;have l2:=zL q2;have b02:zb w w2:=b1.trans (b2.mono (by omega));have B02:=zH b02;have s02:w.heap.size<=w2.heap.size:=by omega
 have Q2:=zH q2;obtain⟨y0,y1⟩:=cells2e ((b2.block _ l1).trans q1);have hp2:=hP.below b02;have x2:=hp2.left;have x3:=hp2.right;rw[hnts] at x2 hi;rw[hnus] at x3 hj;have f0':=(b02.cell (p:=⟨b,o+i*4,none⟩) hb).trans d0;have f1':=(b02.cell (p:=⟨b,o+i*4+1,none⟩) hb).trans d1;have f2':=(b02.cell (p:=⟨b,o+i*4+2,none⟩) hb).trans d2;have f3':=(b02.cell (p:=⟨b,o+i*4+3,none⟩) hb).trans d3;have g0':=(b02.cell (p:=⟨b',o'+j*4,none⟩) hb').trans e0;have g1':=(b02.cell (p:=⟨b',o'+j*4+1,none⟩) hb').trans e1;have g2':=(b02.cell (p:=⟨b',o'+j*4+2,none⟩) hb').trans e2;have g3':=(b02.cell (p:=⟨b',o'+j*4+3,none⟩) hb').trans e3;have SX:Hid ((zc w2 Bx 2 (.slice (some ⟨b,o,none⟩) nts cl)/\zc w2 Bx 3 (.slice (some ⟨b',o',none⟩) nus cr))/\(zc w2 w.heap.size 0 (zI (i:Int))/\zc w2 w.heap.size 1 (zI (j:Int)))/\(zc w2 b (o+i*4) (zI k1)/\zc w2 b (o+i*4+1) (S n1)/\zc w2 b (o+i*4+2) (zI p1)/\zc w2 b (o+i*4+3) (.slice B xs.length c1))/\(zc w2 b' (o'+j*4) (zI k2)/\zc w2 b' (o'+j*4+1) (S n2)/\zc w2 b' (o'+j*4+2) (zI p2)/\zc w2 b' (o'+j*4+3) (.slice B' ys.length c2))):=zH ⟨⟨x2,x3⟩,⟨y0,y1⟩,⟨f0',f1',f2',f3'⟩,⟨g0',g1',g2',g3'⟩⟩;have m1:=World.new_ne w2 _ x2;have m2:=World.new_ne w2 _ y0;have m3:=World.new_ne w2 _ f0';have m4:=World.new_ne w2 _ g0';simp only at m1 m2 m3 m4;have hi0:=zP i;have hi1:(i:Int)<(nts:Int):=by omega
 have hj0:=zP j;have hj1:(j:Int)<(nus:Int):=by omega
 obtain⟨r,hr⟩:∃r,Lfc.chain0 ks t u 2=r:=⟨_,rfl⟩;rw[hr];have HR:=zH hr;clear hr hT hT' hP hp2 q1 q2 b1 b2 b02 ht ht' hB hB' d0 d1 d2 d3 e0 e1 e2 e3 hT0 hU0 hnts hnus;go_enter Tryz.func158,Tryz.ntmps158;go_upto_region 1 with fail;clear hw1 hw2;go_region_held3 (fun W=>(W.cell? ⟨Bx,2,none⟩=some (.slice (some ⟨b,o,none⟩) nts cl)/\W.cell? ⟨Bx,3,none⟩=some (.slice (some ⟨b',o',none⟩) nus cr))/\(W.cell? ⟨w.heap.size,0,none⟩=some (zI (i:Int))/\W.cell? ⟨w.heap.size,1,none⟩=some (zI (j:Int)))/\(W.cell? ⟨b,o+i*4,none⟩=some (zI k1)/\W.cell? ⟨b,o+i*4+1,none⟩=some (S n1)/\W.cell? ⟨b,o+i*4+2,none⟩=some (zI p1)/\W.cell? ⟨b,o+i*4+3,none⟩=some (.slice B xs.length c1))/\(W.cell? ⟨b',o'+j*4,none⟩=some (zI k2)/\W.cell? ⟨b',o'+j*4+1,none⟩=some (S n2)/\W.cell? ⟨b',o'+j*4+2,none⟩=some (zI p2)/\W.cell? ⟨b',o'+j*4+3,none⟩=some (.slice B' ys.length c2)))
  (first | exact SX.o | go_keep)
  (fail)
 ·obtain⟨w5,hw5⟩:∃w5,((w2.alloc (.cells (zT k1 n1 p1 B xs c1) 51)).alloc (.cells (zT k2 n2 p2 B' ys c2) 51)).drew=w5:=⟨_,rfl⟩;rw[hw5];have b5:zb w2 w5:=by rw[<-hw5];exact(((zB _ _).alloc (zN _) _).alloc (by simp) _).drew
  have s5:w5.heap.size=w2.heap.size+2:=by rw[<-hw5];simp[World.drew]
  have qa:w5.heap[w2.heap.size]?=some (.cells (zT k1 n1 p1 B xs c1) 51 (0,0)):=by
   rw[<-hw5];exact(Below.heap_alloc _ _ _ (by simp)).trans (zW _ _)
  have qb:w5.heap[w2.heap.size+1]?=some (.cells (zT k2 n2 p2 B' ys c2) 51 (0,0)):=by
   rw[<-hw5];exact two_alloc _ _ _
  obtain⟨y0,y1,y2,y3⟩:=cells4t qa;obtain⟨z0,z1,z2,z3⟩:=cells4t qb;have hp5:=HP.o.below (B02.o.trans (b5.mono s02));have CH:=zH (oChain0_any Bx ks A0 F0 c0 f0 2 t u _ _ w5 hks hsi hsj hp5.ks (HT.o.below (B02.o.trans (b5.mono s02))) (HT'.o.below (B02.o.trans (b5.mono s02))) hp5.facts hp5.kinds hp5.lt);rw[HR.o] at CH;have B5:=zH (B02.o.trans (b5.mono s02));have Q5:=zH ((b5.block _ l2).trans Q2.o);clear hw5 hp5 qa qb b5;go_wp2_with fail;refine CH.o.mono ?_;rintro e w6⟨⟨rfl,rfl⟩ | ⟨l,Al,cll,rfl,rfl,hcl,hl⟩,b6⟩
  ·obtain⟨s1,s2,s3,s4,h1,h2,h3,h4,⟨c0',c1',c2',c3'⟩,⟨t0,t1,t2,t3⟩,hq,ho⟩:=put4 ((b6.block _ (by omega)).trans Q5.o) (zI 0) zS zS zS;have HQ:=zH hq;have HZ:Hid (ArgAns w none (.returned (.tuple #[.agg #[zI 0,zS,zS,zS],.bool false])) s4):=zH ⟨.inl ⟨rfl,rfl⟩,Oth.below (B5.o.trans (b6.mono B5.o.size)) ho (by omega) (zR B5.o.size b6.size)⟩;clear hq ho b6 y0 y1 y2 y3 z0 z1 z2 z3 CH;go_wp2_with fail;refine Zb (results_proof2 rfl _ _ _ _ _ _ _ rfl HQ.o) ?_;exact HZ.o
  obtain⟨s1,s2,s3,s4,h1,h2,h3,h4,⟨c0',c1',c2',c3'⟩,⟨t0,t1,t2,t3⟩,hq,ho⟩:=put4 ((b6.block _ (by omega)).trans Q5.o) (zI 0) zS (.slice Al l.length cll) zS;have HQ:=zH hq;have HZ:Hid (ArgAns w (some l) (.returned (.tuple #[.agg #[zI 0,zS,.slice Al l.length cll,zS],.bool true])) s4):=zH ⟨.inr ⟨l,Al,cll,rfl,rfl,hcl,hl.keep (fun b hb hlt=>ho.block b hlt (fun e=>by have e:=zO e;have hb:w5.heap.size<=b:=hb;omega)) ho.size (fun b _ hb=>zR B5.o.size hb)⟩,Oth.below (B5.o.trans (b6.mono B5.o.size)) ho (by omega) (zR B5.o.size b6.size)⟩;clear hq ho b6 y0 y1 y2 y3 z0 z1 z2 z3 CH hl;go_wp2_with fail;refine Zb (results_proof2 rfl _ _ _ _ _ _ _ rfl HQ.o) ?_;exact HZ.o
 obtain⟨w5,hw5⟩:∃w5,((w2.alloc (.cells (zT k2 n2 p2 B' ys c2) 51)).alloc (.cells (zT k1 n1 p1 B xs c1) 51)).drew=w5:=⟨_,rfl⟩;rw[hw5];have b5:zb w2 w5:=by rw[<-hw5];exact(((zB _ _).alloc (zN _) _).alloc (by simp) _).drew
 have s5:w5.heap.size=w2.heap.size+2:=by rw[<-hw5];simp[World.drew]
 have qa:w5.heap[w2.heap.size]?=some (.cells (zT k2 n2 p2 B' ys c2) 51 (0,0)):=by
  rw[<-hw5];exact(Below.heap_alloc _ _ _ (by simp)).trans (zW _ _)
 have qb:w5.heap[w2.heap.size+1]?=some (.cells (zT k1 n1 p1 B xs c1) 51 (0,0)):=by
  rw[<-hw5];exact two_alloc _ _ _
 obtain⟨y0,y1,y2,y3⟩:=cells4t qb;obtain⟨z0,z1,z2,z3⟩:=cells4t qa;have hp5:=HP.o.below (B02.o.trans (b5.mono s02));have CH:=zH (oChain0_any Bx ks A0 F0 c0 f0 2 t u _ _ w5 hks hsi hsj hp5.ks (HT.o.below (B02.o.trans (b5.mono s02))) (HT'.o.below (B02.o.trans (b5.mono s02))) hp5.facts hp5.kinds hp5.lt);rw[HR.o] at CH;have B5:=zH (B02.o.trans (b5.mono s02));have Q5:=zH ((b5.block _ l2).trans Q2.o);clear hw5 hp5 qa qb b5;go_wp2_with fail;refine CH.o.mono ?_;rintro e w6⟨⟨rfl,rfl⟩ | ⟨l,Al,cll,rfl,rfl,hcl,hl⟩,b6⟩
 ·obtain⟨s1,s2,s3,s4,h1,h2,h3,h4,⟨c0',c1',c2',c3'⟩,⟨t0,t1,t2,t3⟩,hq,ho⟩:=put4 ((b6.block _ (by omega)).trans Q5.o) (zI 0) zS zS zS;have HQ:=zH hq;have HZ:Hid (ArgAns w none (.returned (.tuple #[.agg #[zI 0,zS,zS,zS],.bool false])) s4):=zH ⟨.inl ⟨rfl,rfl⟩,Oth.below (B5.o.trans (b6.mono B5.o.size)) ho (by omega) (zR B5.o.size b6.size)⟩;clear hq ho b6 y0 y1 y2 y3 z0 z1 z2 z3 CH;go_wp2_with fail;refine Zb (results_proof2 rfl _ _ _ _ _ _ _ rfl HQ.o) ?_;exact HZ.o
 obtain⟨s1,s2,s3,s4,h1,h2,h3,h4,⟨c0',c1',c2',c3'⟩,⟨t0,t1,t2,t3⟩,hq,ho⟩:=put4 ((b6.block _ (by omega)).trans Q5.o) (zI 0) zS (.slice Al l.length cll) zS;have HQ:=zH hq;have HZ:Hid (ArgAns w (some l) (.returned (.tuple #[.agg #[zI 0,zS,.slice Al l.length cll,zS],.bool true])) s4):=zH ⟨.inr ⟨l,Al,cll,rfl,rfl,hcl,hl.keep (fun b hb hlt=>ho.block b hlt (fun e=>by have e:=zO e;have hb:w5.heap.size<=b:=hb;omega)) ho.size (fun b _ hb=>zR B5.o.size hb)⟩,Oth.below (B5.o.trans (b6.mono B5.o.size)) ho (by omega) (zR B5.o.size b6.size)⟩;clear hq ho b6 y0 y1 y2 y3 z0 z1 z2 z3 CH hl;go_wp2_with fail;refine Zb (results_proof2 rfl _ _ _ _ _ _ _ rfl HQ.o) ?_;exact HZ.o
end
section
open Go.RowKit
theorem oBothArg_any(a b:Int)(w:World) :
  Calls Tryz.prog 36 #[.agg #[zI 1,zI a,zS],.agg #[zI 1,zI b,zS]] w fun e w'=>e=.returned (.iface 123 (.agg #[zI a,zI b]))/\zb w w':=by
 obtain⟨w1,hw1⟩:∃w1,w.alloc (.cells #[zI 1,zI a,zS] 26)=w1:=⟨_,rfl⟩;obtain⟨w2,hw2⟩:∃w2,w1.alloc (.cells #[zI 1,zI b,zS] 26)=w2:=⟨_,rfl⟩;have b1:=zG hw1;have b2:=zG hw2;have q1:=zQ hw1;have q2:=zQ hw2;have l1:=zL q1;have b02:zb w w2:=b1.trans (b2.mono (by omega));have HB:=zH b02;obtain⟨y0,y1,y2⟩:=cells3o ((b2.block _ l1).trans q1);obtain⟨z0,z1,z2⟩:=cells3o q2;clear b1 b2 q1 q2 b02;go_enter Tryz.func36,Tryz.ntmps36;go_wp2_with fail;go_loopw [10] (fun i wr=>i=zI 0/\wr=w2) (fun i _=>0);case atStart=>exact⟨rfl,rfl⟩
 obtain⟨rfl,hwx⟩:=hrel;subst hwx;go_wp2_with fail;go_ret;exact⟨rfl,HB.o⟩
end
section
open Go.RowKit Go.Maps
theorem growT_any(n:Nat)(w:World)(hn:n<=10000000) :
  Calls Tryz.prog 89 #[zS,zI (n:Int)] w fun e w'=>(∃v,e=.returned v/\w'.ownsRow w.heap.size 51 4 v 0 [])/\zb w w':=by
 obtain⟨i0,hi,hz0,hz1,hz2⟩:=info_parts termInfo;by_cases h0:n=0
 ·subst h0;have h2:IntKind.i64.wrap (0-0)=0:=by decide
  simp only[Int.natCast_zero];go_enter Tryz.func89,Tryz.ntmps89;go_wp2_with fail;go_ret;exact⟨⟨_,rfl,World.ownsRow_nil w w.heap.size _ 4⟩,zB _ _⟩
 have hn0:¬((n:Int)<0):=by omega
 have h1:IntKind.i64.wrap (0-0)=0:=by decide
 have h2:IntKind.i64.wrap ((n:Int)-0)=(n:Int):=by rw[Zi _ (by omega)];omega
 have h3:(n:Int)>0:=by omega
 have h4:decide ((n:Int)>0)=true:=Zt h3;have h5:decide ((n:Int)<0)=false:=Zu hn0;have hold:(Builtin.firstCells i0.size 0 zS).run Tryz.prog w.drew=.ok (#[]:Array Value) w.drew:=run_firstCells_none w.drew i0.size 0 0 0;have hr:∀ty,(Builtin.append_ #[27,3] ty #[zS,zI (n:Int)]).run Tryz.prog w=.ok (.slice (some ⟨w.heap.size,0,none⟩) n (grownCap w n 0 51)) (w.drew.alloc (.cells (Builtin.zeroCells #[zI 0,S [],zI 0,zS] n++Builtin.zeroCells #[zI 0,S [],zI 0,zS] (grownCap w n 0 51-n)) 51)):=fun ty=>by
  have h:=Lib.run_append_grow_zeros w 27 3 ty 51 i0 _ .i64 .i64 Tryz.underlying27 Tryz.underlying3 hi hz0 none 0 0 [] hold n (by omega) (by omega) (by omega) (by omega) (by rw[hz2];omega) (by rw[Nat.zero_add];exact growslice_fits (by omega) (by rw[hz2];omega));rw[show(Value.agg #[zI 0,S [],zI 0,zS]).cells=#[zI 0,S [],zI 0,zS] from rfl] at h;simpa using h
 have hG:=grownCap_ge w n 0 51;have hG2:=grownCap_le_maxLen w n 0 51 (by unfold maxLen;omega);obtain⟨G,hG0⟩:∃G,grownCap w n 0 51=G:=⟨_,rfl⟩;rw[hG0] at hr hG hG2;obtain⟨w1,hw1⟩:∃w1,w.drew.alloc (.cells (Builtin.zeroCells #[zI 0,S [],zI 0,zS] n++Builtin.zeroCells #[zI 0,S [],zI 0,zS] (G-n)) 51)=w1:=⟨_,rfl⟩;rw[hw1] at hr;have HZ:Hid (w1.ownsRow w.heap.size 51 4 (.slice (some ⟨w.heap.size,0,none⟩) 0 G) 0 []/\zb w w1):=zH (by
  refine⟨⟨rfl,.inr ⟨w.heap.size,G,_,rfl,zN _,by rw[<-hw1];exact zW w.drew _,Nat.zero_le _,hG2,?_,?_⟩⟩,?_⟩
  ·rw[Array.size_append,size_zeroCells,size_zeroCells];show n*4+(G-n)*4=G*4;omega
  ·simp
  rw[<-hw1];exact((zB _ _).drew).alloc (zN _) _)
 have hG3:=zP G;unfold maxLen at hG2;clear hG0 hw1 hold;go_enter Tryz.func89,Tryz.ntmps89;go_wp2_with (at_builtin;refine Lib.wpList_append_run _ rfl _ _ _ _ rfl _ _ rfl rfl _ _ (hr _) ?_);all_goals
  go_ret;exact⟨⟨_,rfl,HZ.o.1⟩,HZ.o.2⟩
structure Part where
 A:Option Addr
 n:Nat
 c:Nat
 xs:List Value
def partsN:List Part→Nat
 |[]=>0
 |p :: r=>p.n+partsN r
def partsX:List Part→List Value
 |[]=>[]
 |p :: r=>p.xs++partsX r
theorem partsN_append:∀(l r:List Part),partsN (l++r)=partsN l+partsN r
 |[],r=>by simp[partsN]
 |p :: l,r=>by rw[List.cons_append,partsN,partsN,partsN_append l r];omega
theorem partsX_append:∀(l r:List Part),partsX (l++r)=partsX l++partsX r
 |[],r=>by simp[partsX]
 |p :: l,r=>by rw[List.cons_append,partsX,partsX,partsX_append l r,List.append_assoc]
theorem partsN_succ{l:List Part}{k:Nat}(h:k<l.length):partsN (l.take (k+1))=partsN (l.take k)+l[k].n:=by
 rw[Zm h,partsN_append];simp[partsN]
theorem partsX_succ{l:List Part}{k:Nat}(h:k<l.length):partsX (l.take (k+1))=partsX (l.take k)++l[k].xs:=by
 rw[Zm h,partsX_append];simp[partsX]
theorem partsN_take(l:List Part)(k:Nat):partsN (l.take k)≤partsN l:=by
 have:=partsN_append (l.take k) (l.drop k);rw[List.take_append_drop] at this;omega
def PartsO(w:World)(g o:Nat)(Ls:List Part):Prop:=∀k(h:k<Ls.length),w.cell? ⟨g,o+k,none⟩=some (.slice Ls[k].A Ls[k].n Ls[k].c)∧Ls[k].xs.length=Ls[k].n*4∧(Ls[k].A=none→Ls[k].n=0∧Ls[k].c=0)∧(∀a,Ls[k].A=some a→∀j u,Ls[k].xs[j]?=some u→w.cell? (a.add j)=some u)∧(∀u∈Ls[k].xs,u.oneCell'=true)
theorem PartsO.below{w w':World}{g o:Nat}{Ls:List Part}(h:PartsO w g o Ls)(hb:Below w.heap.size w w'):PartsO w' g o Ls:=fun k hk=>by
 obtain⟨h1,h2,h3,h4,h5⟩:=h k hk;exact⟨(hb.cell (World.block_lt_of_cell? w _ h1)).trans h1,h2,h3,fun a ha j u hj=>(hb.cell (World.block_lt_of_cell? w _ (h4 a ha j u hj))).trans (h4 a ha j u hj),h5⟩
theorem concatT_any(g o c:Nat)(Ls:List Part)(w:World)(hL:Ls.length<=1000)(hN:partsN Ls<=10000000)(hP:PartsO w g o Ls) :
  Calls Tryz.prog 59 #[.slice (some ⟨g,o,none⟩) Ls.length c] w fun e w'=>(∃v,e=.returned v/\w'.ownsRow w.heap.size 51 4 v (partsN Ls) (partsX Ls))/\zb w w':=by
 obtain⟨i0,hi,hz0,hz1,hz2⟩:=info_parts termInfo;have HP:=zH hP;clear hP;obtain⟨N,hNN⟩:∃N,partsN Ls=N:=⟨_,rfl⟩;have HNN:=zH hNN;have hN2:N<=10000000:=by omega
 clear hN hNN;have CG:=zH (growT_any N w hN2);go_enter Tryz.func59,Tryz.ntmps59;go_wp2_with fail;go_loopw [3,11] (fun s i wr=>∃k:Nat,k<=Ls.length/\s=zI (partsN (Ls.take k):Nat)/\i=zI (k:Int)/\wr=w) (fun _ i _=>Ls.length-(intOf i).toNat);case atStart=>exact⟨0,by omega,by simp[partsN],by simp,by simp⟩
 obtain⟨k,hk,rfl,rfl,hwx⟩:=hrel;subst hwx;by_cases hlt:k<Ls.length
 ·obtain⟨h1,h2,h3,h4,h5⟩:=HP.o k hlt;have HS:=zH (partsN_succ hlt);have hT:partsN (Ls.take (k+1))<=N:=by rw[<-HNN.o];exact partsN_take _ _
  have hsum:partsN (Ls.take k)+Ls[k].n<=N:=by rw[<-HS.o];exact hT
  have hi0:=zP k;have hi1:(k:Int)<(Ls.length:Int):=by omega
  have hwr:IntKind.i64.wrap ((partsN (Ls.take k):Int)+(Ls[k].n:Int))=(partsN (Ls.take k):Int)+(Ls[k].n:Int):=Zi _ (by omega);have hd:decide ((partsN (Ls.take k):Int)+(Ls[k].n:Int)<0)=false:=Zu (by omega);have hd2:¬((partsN (Ls.take k):Int)+(Ls[k].n:Int)<0):=by omega
  clear h2 h3 h4 h5 hT;go_wp2_with fail;go_roundw;case rel=>exact⟨k+1,by omega,by rw[HS.o];go_num,by go_num,by simp⟩
  case measure=>simp[intOf];omega
 obtain rfl:k=Ls.length:=by omega
 have hTE:partsN (Ls.take Ls.length)=N:=by rw[List.take_length];exact HNN.o
 rw[hTE];clear hTE;go_wp2_with fail;refine CG.o.mono ?_;rintro e w2⟨⟨v,rfl,hown⟩,hb⟩;have HW:=zH (show w2.ownsRow wr.heap.size 51 4 v (partsN (Ls.take 0)) (partsX (Ls.take 0))/\zb wr w2 from⟨hown,hb⟩);clear hown hb CG;obtain⟨wq,hwq⟩:∃wq,wq=wr:=⟨_,rfl⟩;subst hwq;go_wp2_with fail;go_loopw [6,27] (fun v i wr=>∃k:Nat,k<=Ls.length/\i=zI (k:Int)/\Hid (wr.ownsRow wq.heap.size 51 4 v (partsN (Ls.take k)) (partsX (Ls.take k))/\zb wq wr)) (fun _ i _=>Ls.length-(intOf i).toNat);case atStart=>exact⟨0,by omega,rfl,HW⟩
 obtain⟨k,hk,rfl,HI⟩:=hrel;obtain⟨hown,hb⟩:=HI.o;by_cases hlt:k<Ls.length
 ·obtain⟨h1,h2,h3,h4,h5⟩:=(HP.o.below hb) k hlt;have HS:=zH (partsN_succ hlt);have HX:=zH (partsX_succ hlt);have hT:partsN (Ls.take (k+1))<=N:=by rw[<-HNN.o];exact partsN_take _ _
  have hsum:partsN (Ls.take k)+Ls[k].n<=N:=by rw[<-HS.o];exact hT
  have hi0:=zP k;have hi1:(k:Int)<(Ls.length:Int):=by omega
  generalize Ls[k]=P at *;obtain⟨PA,Pn,Pc,Px⟩:=P;simp only at h1 h2 h3 h4 h5 hsum HS HX;have HO:=zH hown;have HB:=zH hb;clear hown hb HI HW;cases PA with
  |none =>
   obtain⟨rfl,rfl⟩:=h3 rfl;have hx0:Px=[]:=Zz (by omega);clear h2 h3 h4 h5;go_wp2_with (at_builtin;refine wpList_append_own_none rfl _ _ 27 rfl wq.heap.size 51 i0 4 Tryz.underlying27 hi _ _ _ rfl HO.o rfl ?_);go_roundw;case rel=>exact⟨k+1,by omega,by go_num,zH ⟨by rw[HS.o,HX.o,hx0,Nat.add_zero,List.append_nil];exact HO.o,HB.o⟩⟩
   case measure=>simp[intOf];omega
  |some a =>
   have H4:=zH (h4 a rfl);have H5:=zH h5;have H2:=zH h2;clear h2 h3 h4 h5;go_wp2_with (at_builtin;refine wpList_append_own_at _ rfl _ _ 27 rfl wq.heap.size 51 i0 _ 4 56 Tryz.underlying27 hi hz0 hz1 hz2 rfl (by decide) _ _ _ rfl HO.o a Pn Pc Px rfl H2.o H4.o H5.o (by unfold maxLen;omega) (by omega) HB.o.size ?_);intro v9 w9 hown9 hg9 _ _;have HZ:Hid (w9.ownsRow wq.heap.size 51 4 v9 (partsN (Ls.take (k+1))) (partsX (Ls.take (k+1)))/\zb wq w9):=zH ⟨by rw[HS.o,HX.o];exact hown9,Below.grown HB.o hg9 HB.o.size (fun b e=>(HO.o.lt b e).1)⟩;clear hown9 hg9;go_wp2_with fail;go_roundw;case rel=>exact⟨k+1,by omega,by go_num,HZ⟩
   case measure=>simp[intOf];omega
 obtain rfl:k=Ls.length:=by omega
 rw[List.take_length] at hown;have HZ:=zJ hown hb;clear hown hb HI;go_wp2_with fail;go_ret;exact⟨⟨_,rfl,HZ.o.1⟩,HZ.o.2⟩
end
section
open Go.RowKit
theorem oRel_any(r:Int)(w:World):Calls Tryz.prog 61 #[zI r] w fun e w'=>e=.returned (.bool (r == 1 || r == 2 || r == 3))/\w'=w:=by
 go_enter Tryz.func61,Tryz.ntmps61;go_wp2_with fail;all_goals
  go_ret;exact⟨ret_bool (by simp_all),rfl⟩
end
section
open Go.RowKit _root_.Lfc
theorem oCount_any(m:Nat)(hmm:m<=1000000):∀(o:Lfc.Ord)(v:Value)(lim:Int)(w:World),o.size<=m->0<=lim->lim<=1000->OrdV w o v ->
  Calls Tryz.prog 84 #[v,zI lim] w fun e w'=>e=.returned (zI (o.cnt lim))/\zb w w':=by
 induction m with
 |zero=>intro o v lim w h _ _ _;have:=o.size_pos;omega
 |succ m ih0 =>
  intro o v lim w hm hl0 hl1 hv;have ih:=ih0 (by omega);clear ih0;obtain⟨kd,ar,ts⟩:=o;obtain⟨A,c,rfl,hc,hA⟩:=hv.open_;simp only[Lfc.Ord.size] at hm;have hlen:=Lfc.Ord.sizes_len ts;have IH:=zH ih;have HSP:=zH (fun(k:Nat) (h:k<ts.length) (l:Int) (h0:0<=l)=>cnt_spec _ ts[k] l (zN _) h0);have b0:zb w (w.alloc (.cells #[zI kd,zI ar,.slice A ts.length c] 26)):=(zB _ _).alloc (zN _) _;have HA:=zH hA;have HR:Hid (Lfc.Ord.cnt (.node kd ar ts) lim=Lfc.Ord.cnts ts lim 1):=zH rfl;rw[HR.o];clear ih hA hv HR;go_enter Tryz.func84,Tryz.ntmps84;go_wp2_with fail;go_loopw [5,11] (fun n i wr=>∃(k:Nat)(q:Int),k<=ts.length/\i=zI k/\n=zI q/\1<=q/\q<=1+(Lfc.Ord.sizes (ts.take k):Int)/\Hid (Lfc.Ord.cnts (ts.drop k) lim q=Lfc.Ord.cnts ts lim 1)/\zb w wr) (fun _ i _=>ts.length-(intOf i).toNat);case atStart=>exact⟨0,1,by omega,rfl,rfl,by omega,by simp[Lfc.Ord.sizes],zH (by simp),b0⟩
  obtain⟨k,q,hk,rfl,rfl,hq1,hq2,HC,hbw⟩:=hrel;have hle:=Lfc.Ord.sizes_take_le ts k;by_cases hlt:k<ts.length
  ·obtain⟨b,o,k1,a1,us,B,c1,rfl,hb,ht,d0,d1,d2,hcu,hB,hT⟩:=(HA.o.below hbw).at_ hlt;have hst:=Lfc.Ord.sizes_take ts k hlt;have hmem:=Lfc.Ord.sizes_mem ts ts[k] (Ze _);have HD:Hid (Lfc.Ord.cnts (ts[k] :: ts.drop (k+1)) lim q=Lfc.Ord.cnts ts lim 1):=zH (by rw[<-List.drop_eq_getElem_cons hlt];exact HC.o);have b1:zb wr (wr.alloc (.cells #[zI k1,zI a1,.slice B us.length c1] 26)):=(zB _ _).alloc (zN _) _;have hT2:=hT.below b1;have HB1:=zH b1;clear hB ht;by_cases hlim:lim<q
   ·have HRES:Hid (Lfc.Ord.cnts ts lim 1=q):=zH (by rw[<-HD.o,Lfc.Ord.cnts,if_pos hlim]);have hd1:decide (q>lim)=true:=(by simpa using hlim);have hd2:decide (lim<q)=true:=(by simpa using hlim);go_wp2_with fail;go_ret;exact⟨ret_int HRES.o.symm,hbw.trans (HB1.o.mono hbw.size)⟩
   have hd1:decide (q>lim)=false:=(by simp;omega);have hd2:decide (lim<q)=false:=(by simp;omega);obtain⟨e1,e2,_,_⟩:=HSP.o k hlt (lim-q) (by omega);have HD2:Hid (Lfc.Ord.cnts (ts.drop (k+1)) lim (q+Lfc.Ord.cnt ts[k] (lim-q))=Lfc.Ord.cnts ts lim 1):=zH (by rw[<-HD.o,Lfc.Ord.cnts,if_neg hlim]);have hw1:IntKind.i64.wrap (lim-q)=lim-q:=Zi _ (by omega);have CALL:=zH (IH.o ts[k] _ (lim-q) _ (by omega) (by omega) (by omega) hT2);have HST:=zH hst;generalize hZ:Lfc.Ord.cnt ts[k] (lim-q)=z at *;generalize Lfc.Ord.sizes (ts.take k)=y at *;clear hst hZ HD;go_wp2_with fail;refine CALL.o.mono ?_;rintro e w1⟨rfl,hb1⟩;have hq3:q+z<=1+(Lfc.Ord.sizes (ts.take (k+1)):Int):=(by have:=HST.o;omega);have hq4:=Lfc.Ord.sizes_take_le ts (k+1);go_wp2_with fail;go_roundw;case rel=>exact⟨k+1,q+z,by omega,by go_num,by go_num,by omega,hq3,HD2,hbw.trans ((HB1.o.trans (hb1.mono HB1.o.size)).mono hbw.size)⟩
   case measure=>simp[intOf];omega
  have HRES:Hid (Lfc.Ord.cnts ts lim 1=q):=zH (by rw[<-HC.o,List.drop_eq_nil_of_le (by omega)];rfl);go_wp2_with fail;go_ret;exact⟨ret_int HRES.o.symm,hbw⟩
theorem enters_oForm:∀args w,(callFunc 108 args).run Tryz.prog w=.ok (.enter 108 args) w:=enters_of Tryz.func108 (by kernel_rfl) rfl
theorem oFormIndex_any(m:Nat)(ih:∀(o:Lfc.Ord)(v:Value)(w:World),o.size<=m->OrdV w o v->Calls Tryz.prog 108 #[v] w fun e w'=>e=.returned (.bool (!(o).form))/\zb w w')
  (ts:List Lfc.Ord) (A:Option Addr) (c:Nat) (w:World) (hm:Lfc.Ord.sizes ts<=m) (hmax:ts.length<=1000000) (h:OrdsAt w A ts) :
  Calls Tryz.prog 109 #[.slice A ts.length c,.func (.func 108) #[] #[]] w fun e w'=>∃i:Int,e=.returned (zI i)/\decide (i≥0)=!Lfc.Ord.forms ts/\zb w w':=by
 have he:=enters_oForm;have IH:=zH ih;have HA:=zH h;have HS:=zH (forms_specO ts);have HF:=zH (forms_falseO ts);clear ih h;generalize Lfc.Ord.forms ts=res at *;go_enter Tryz.func109,Tryz.ntmps109;go_wp2_with fail;go_loopw [8] (fun i wr=>∃k:Nat,k<=ts.length/\i=zI k/\zb w wr/\Hid (∀j(h:j<ts.length),j<k->(ts[j]).form=true)) (fun i _=>ts.length-(intOf i).toNat);case atStart=>exact⟨0,by omega,rfl,zB _ _,zH fun j _ hj=>by omega⟩
 obtain⟨k,hk,rfl,hbw,hp⟩:=hrel;by_cases hlt:k<ts.length
 ·obtain⟨b,o,k1,a1,xs,B1,c1,rfl,hb,ht,d0,d1,d2,hcu,hB,hT⟩:=(HA.o.below hbw).at_ hlt;have hmem:=Lfc.Ord.sizes_mem ts ts[k] (Ze _);clear hB ht;have hT2:=zH hT;cases hq:(ts[k]).form
  ·have hres:=HF.o k hlt hq;subst hres;have HQ:=zH hq;clear hq;go_wp2_with fail;refine(IH.o ts[k] _ _ (by omega) hT2.o).mono ?_;rintro e w1⟨rfl,hb1⟩;rw[HQ.o];go_wp2_with fail;go_ret;exact⟨k,rfl,by simp,hbw.trans (hb1.mono hbw.size)⟩
  have HQ:=zH hq;clear hq;go_wp2_with fail;refine(IH.o ts[k] _ _ (by omega) hT2.o).mono ?_;rintro e w1⟨rfl,hb1⟩;rw[HQ.o];go_wp2_with fail;go_roundw;case rel =>
   refine⟨k+1,by omega,by go_num,hbw.trans (hb1.mono hbw.size),zH fun j h hj=>?_⟩;rcases Nat.lt_or_ge j k with h1 | h1
   ·exact hp.o j h h1
   obtain rfl:j=k:=(by omega);exact HQ.o
  case measure=>simp[intOf];omega
 have hres:=HS.o.2 fun j h=>hp.o j h (by omega);subst hres;go_wp2_with fail;go_ret;exact⟨-1,rfl,by decide,hbw⟩
theorem oFormContains_any(m:Nat)(ih:∀(o:Lfc.Ord)(v:Value)(w:World),o.size<=m->OrdV w o v->Calls Tryz.prog 108 #[v] w fun e w'=>e=.returned (.bool (!(o).form))/\zb w w')
  (ts:List Lfc.Ord) (A:Option Addr) (c:Nat) (w:World) (hm:Lfc.Ord.sizes ts<=m) (hmax:ts.length<=1000000) (h:OrdsAt w A ts) :
  Calls Tryz.prog 87 #[.slice A ts.length c,.func (.func 108) #[] #[]] w fun e w'=>e=.returned (.bool (!Lfc.Ord.forms ts))/\zb w w':=by
 have IH:=zH (oFormIndex_any m ih ts A c w hm hmax h);clear ih h;go_enter Tryz.func87,Tryz.ntmps87;go_wp2_with fail;refine IH.o.mono ?_;rintro e w1⟨i,rfl,hi,hb1⟩;have HI:=zH hi;clear hi;go_wp2_with fail;go_ret;exact⟨ret_bool HI.o,hb1⟩
theorem oForm_upto(m:Nat)(hmm:m<=1000000):∀(o:Lfc.Ord)(v:Value)(w:World),o.size<=m->OrdV w o v ->
  Calls Tryz.prog 85 #[v] w fun e w'=>e=.returned (.bool o.form)/\zb w w':=by
 induction m with
 |zero=>intro o v w h _;have:=o.size_pos;omega
 |succ m ih0 =>
  intro o v w hsz hv;have ih:=ih0 (by omega);clear ih0;have hn:∀(o:Lfc.Ord)(v:Value)(w:World),o.size<=m->OrdV w o v->Calls Tryz.prog 108 #[v] w fun e w'=>e=.returned (.bool (!o.form))/\zb w w':=by
   intro o v w hm hv;obtain⟨kd,ar,ts⟩:=o;obtain⟨A,c,rfl,hc,hA⟩:=hv.open_;have b0:zb w (w.alloc (.cells #[zI kd,zI ar,.slice A ts.length c] 26)):=(zB _ _).alloc (zN _) _;have IH:=zH (ih _ _ _ hm (hv.below b0));clear ih hv hA;generalize (Lfc.Ord.node kd ar ts).form=q at *;go_enter Tryz.func108,Tryz.ntmps108;go_wp2_with fail;refine IH.o.mono ?_;rintro e w1⟨rfl,hb1⟩;cases q;all_goals
    go_wp2_with fail;go_ret;exact⟨rfl,b0.trans (hb1.mono b0.size)⟩
  obtain⟨kd,ar,ts⟩:=o;obtain⟨A,c,rfl,hc,hA⟩:=hv.open_;have hsz':=hsz;simp only[Lfc.Ord.size] at hsz';have hlen:=Lfc.Ord.sizes_len ts;have hbx:Hid (zb w (w.alloc (.cells #[zI kd,zI ar,.slice A ts.length c] 26))):=zH ((zB _ _).alloc (zN _) _);have HC:=zH (oFormContains_any m hn ts A c _ (by omega) (by omega) (hA.below hbx.o));rw[Lfc.Ord.form];clear ih hn hA hv;by_cases hk1:kd=1
  ·subst hk1;rw[if_pos rfl];by_cases hl0:ts.length=0
   ·have hl1:((ts.length:Int) == 0)=true:=(by simp[hl0]);have HD:Hid (decide (ts.length=0)=true):=zH (Zt hl0);rw[HD.o];clear hl0;go_enter Tryz.func85,Tryz.ntmps85;go_wp2_with fail;go_ret;exact⟨rfl,hbx.o⟩
   have hl1:((ts.length:Int) == 0)=false:=(by rw[beq_eq_false_iff_ne];omega);have HD:Hid (decide (ts.length=0)=false):=zH (Zu hl0);rw[HD.o];clear hl0;go_enter Tryz.func85,Tryz.ntmps85;go_wp2_with fail;go_ret;exact⟨rfl,hbx.o⟩
  have hk1f:(kd == 1)=false:=by simpa using hk1
  rw[if_neg hk1];by_cases hk2:kd=2\/kd=3
  ·rw[if_pos hk2];clear hk1;by_cases ha0:ar=0
   ·subst ha0;rw[Zt rfl,Bool.true_and];by_cases hl0:0<ts.length
    ·have hl1:decide ((ts.length:Int)>0)=true:=Zt (by omega);have hl2:decide ((0:Int)<(ts.length:Int))=true:=Zt (by omega);have HD:Hid (decide (0<ts.length)=true):=zH (Zt hl0);rw[HD.o,Bool.true_and];generalize Lfc.Ord.forms ts=q at *;rcases hk2 with rfl | rfl;all_goals
      go_enter Tryz.func85,Tryz.ntmps85;go_wp2_with fail;refine HC.o.mono ?_;rintro e w1⟨rfl,hb1⟩;cases q;all_goals
       go_wp2_with fail;go_ret;exact⟨rfl,hbx.o.trans (hb1.mono hbx.o.size)⟩
    have hl1:decide ((ts.length:Int)>0)=false:=Zu (by omega);have hl2:decide ((0:Int)<(ts.length:Int))=false:=Zu (by omega);have HD:Hid (decide (0<ts.length)=false):=zH (Zu hl0);rw[HD.o];rcases hk2 with rfl | rfl;all_goals
     go_enter Tryz.func85,Tryz.ntmps85;go_wp2_with fail;go_ret;exact⟨rfl,hbx.o⟩
   have ha1:(ar == 0)=false:=(by simpa using ha0);have HD:Hid (decide (ar=0)=false):=zH (Zu ha0);rw[HD.o];rcases hk2 with rfl | rfl;all_goals
    go_enter Tryz.func85,Tryz.ntmps85;go_wp2_with fail;go_ret;exact⟨by simp,hbx.o⟩
  rw[if_neg hk2];have hk2f:(kd == 2)=false:=by simp;omega
  have hk3f:(kd == 3)=false:=by simp;omega
  go_enter Tryz.func85,Tryz.ntmps85;go_wp2_with fail;go_ret;exact⟨rfl,hbx.o⟩
theorem oSmall_any(o:Lfc.Ord)(v:Value)(w:World)(hsz:o.size<=1000000)(hv:OrdV w o v) :
  Calls Tryz.prog 54 #[v] w fun e w'=>e=.returned (.bool (decide (o.size<=64) && o.form))/\zb w w':=by
 obtain⟨k1,k2,k3,k4⟩:=cnt_spec _ o 64 (zN _) (by omega);have HT:Hid (decide (o.cnt 64<=64)=decide (o.size<=64)):=zH (by
  rw[decide_eq_decide];constructor
  ·intro h;rcases Int.lt_or_le 64 (o.size:Int) with h1 | h1
   ·have:=k4 h1;omega
   omega
  intro h;rw[k3 (by omega)];omega)
 obtain⟨A,c,kd,ar,ts,hT,rfl,hc,hA⟩:∃A c kd ar ts,o=.node kd ar ts/\v=.agg #[zI kd,zI ar,.slice A ts.length c]/\ts.length<=c/\OrdsAt w A ts:=by
  obtain⟨kd,ar,ts⟩:=o;obtain⟨A,c,rfl,hc,hA⟩:=hv.open_;exact⟨A,c,kd,ar,ts,rfl,rfl,hc,hA⟩
 obtain⟨w1,hw1⟩:∃w1,w.alloc (.cells #[zI kd,zI ar,.slice A ts.length c] 26)=w1:=⟨_,rfl⟩;have b01:=zG hw1;have q1:=zQ hw1;obtain⟨y0,y1,y2⟩:=cells3o q1;have C1:=zH (oCount_any _ hsz o _ 64 w1 (zN _) (by omega) (by omega) (hv.below b01));have C2:=zH (fun W (hW:zb w1 W)=>oForm_upto _ hsz o _ W (zN _) ((hv.below b01).below hW));have HQ:=zH q1;rw[<-HT.o];clear hT hA hv k2 k3 k4 q1 HT;generalize o.cnt 64=z at *;generalize o.form=f at *;go_enter Tryz.func54,Tryz.ntmps54;go_wp2_with fail;refine C1.o.mono ?_;rintro e w2⟨rfl,hb2⟩;obtain⟨x0,x1,x2⟩:=cells3o ((hb2.block _ (zL HQ.o)).trans HQ.o);cases hz:decide (z<=64)
 ·go_wp2_with fail;go_ret;exact⟨ret_bool (by simp[hz]),b01.trans (hb2.mono b01.size)⟩
 go_wp2_with fail;refine(C2.o _ hb2).mono ?_;rintro e w3⟨rfl,hb3⟩;cases f;all_goals
  go_wp2_with fail;go_ret;exact⟨ret_bool (by simp[hz]),b01.trans ((hb2.trans (hb3.mono hb2.size)).mono b01.size)⟩
def LH(F1 F2:Nat)(lo hi:Int)(w:World):Prop:=(F1<w.heap.size∧w.cell? ⟨F1,0,none⟩=some (.int .i64 lo))∧(F2<w.heap.size∧w.cell? ⟨F2,0,none⟩=some (.int .i64 hi))
theorem LH.below{F1 F2:Nat}{lo hi:Int}{w w':World}(h:LH F1 F2 lo hi w)(hb:Below w.heap.size w w'):LH F1 F2 lo hi w' :=
 ⟨⟨Zl h.1.1 hb.size,(hb.cell (p:=⟨F1,0,none⟩) h.1.1).trans h.1.2⟩,⟨Zl h.2.1 hb.size,(hb.cell (p:=⟨F2,0,none⟩) h.2.1).trans h.2.2⟩⟩
theorem enters_oArgs:∀args w,(callFunc 88 args).run Tryz.prog w=.ok (.enter 88 args) w:=enters_of Tryz.func88 (by kernel_rfl) rfl
theorem oArgsIndex_any(F1 F2:Nat)(lo hi:Int)(m:Nat)(ih:∀(o:Lfc.Ord)(v:Value)(w:World)(hF:LH F1 F2 lo hi w),o.size<=m->OrdV w o v->Calls Tryz.prog 88 #[v,.pointer (some ⟨F1,0,none⟩),.pointer (some ⟨F2,0,none⟩)] w fun e w'=>e=.returned (.bool (!(o).rng lo hi))/\zb w w')
  (ts:List Lfc.Ord) (A:Option Addr) (c:Nat) (w:World) (hF:LH F1 F2 lo hi w) (hm:Lfc.Ord.sizes ts<=m) (hmax:ts.length<=1000000) (h:OrdsAt w A ts) :
  Calls Tryz.prog 109 #[.slice A ts.length c,.func (.func 88) #[] #[.pointer (some ⟨F1,0,none⟩),.pointer (some ⟨F2,0,none⟩)]] w fun e w'=>∃i:Int,e=.returned (zI i)/\decide (i≥0)=!Lfc.Ord.rngs lo hi ts/\zb w w':=by
 have he:=enters_oArgs;have IH:=zH ih;have HA:=zH h;have HS:=zH (rngs_spec lo hi ts);have HF:=zH (rngs_false lo hi ts);have HLH:=zH hF;clear hF;clear ih h;generalize Lfc.Ord.rngs lo hi ts=res at *;go_enter Tryz.func109,Tryz.ntmps109;go_wp2_with fail;go_loopw [8] (fun i wr=>∃k:Nat,k<=ts.length/\i=zI k/\zb w wr/\Hid (∀j(h:j<ts.length),j<k->(ts[j]).rng lo hi=true)) (fun i _=>ts.length-(intOf i).toNat);case atStart=>exact⟨0,by omega,rfl,zB _ _,zH fun j _ hj=>by omega⟩
 obtain⟨k,hk,rfl,hbw,hp⟩:=hrel;by_cases hlt:k<ts.length
 ·obtain⟨b,o,k1,a1,xs,B1,c1,rfl,hb,ht,d0,d1,d2,hcu,hB,hT⟩:=(HA.o.below hbw).at_ hlt;have hmem:=Lfc.Ord.sizes_mem ts ts[k] (Ze _);clear hB ht;have hT2:=zH hT;cases hq:(ts[k]).rng lo hi
  ·have hres:=HF.o k hlt hq;subst hres;have HQ:=zH hq;clear hq;go_wp2_with fail;refine(IH.o ts[k] _ _ (HLH.o.below hbw) (by omega) hT2.o).mono ?_;rintro e w1⟨rfl,hb1⟩;rw[HQ.o];go_wp2_with fail;go_ret;exact⟨k,rfl,by simp,hbw.trans (hb1.mono hbw.size)⟩
  have HQ:=zH hq;clear hq;go_wp2_with fail;refine(IH.o ts[k] _ _ (HLH.o.below hbw) (by omega) hT2.o).mono ?_;rintro e w1⟨rfl,hb1⟩;rw[HQ.o];go_wp2_with fail;go_roundw;case rel =>
   refine⟨k+1,by omega,by go_num,hbw.trans (hb1.mono hbw.size),zH fun j h hj=>?_⟩;rcases Nat.lt_or_ge j k with h1 | h1
   ·exact hp.o j h h1
   obtain rfl:j=k:=(by omega);exact HQ.o
  case measure=>simp[intOf];omega
 have hres:=HS.o.2 fun j h=>hp.o j h (by omega);subst hres;go_wp2_with fail;go_ret;exact⟨-1,rfl,by decide,hbw⟩
theorem oArgsContains_any(F1 F2:Nat)(lo hi:Int)(m:Nat)(ih:∀(o:Lfc.Ord)(v:Value)(w:World)(hF:LH F1 F2 lo hi w),o.size<=m->OrdV w o v->Calls Tryz.prog 88 #[v,.pointer (some ⟨F1,0,none⟩),.pointer (some ⟨F2,0,none⟩)] w fun e w'=>e=.returned (.bool (!(o).rng lo hi))/\zb w w')
  (ts:List Lfc.Ord) (A:Option Addr) (c:Nat) (w:World) (hF:LH F1 F2 lo hi w) (hm:Lfc.Ord.sizes ts<=m) (hmax:ts.length<=1000000) (h:OrdsAt w A ts) :
  Calls Tryz.prog 87 #[.slice A ts.length c,.func (.func 88) #[] #[.pointer (some ⟨F1,0,none⟩),.pointer (some ⟨F2,0,none⟩)]] w fun e w'=>e=.returned (.bool (!Lfc.Ord.rngs lo hi ts))/\zb w w':=by
 have IH:=zH (oArgsIndex_any F1 F2 lo hi m ih ts A c w hF hm hmax h);clear ih h;go_enter Tryz.func87,Tryz.ntmps87;go_wp2_with fail;refine IH.o.mono ?_;rintro e w1⟨i,rfl,hi,hb1⟩;have HI:=zH hi;clear hi;go_wp2_with fail;go_ret;exact⟨ret_bool HI.o,hb1⟩
theorem oArgs_upto(lo hi:Int)(m:Nat)(hmm:m<=1000000):∀(o:Lfc.Ord)(v:Value)(w:World),o.size<=m->OrdV w o v ->
  Calls Tryz.prog 56 #[v,zI lo,zI hi] w fun e w'=>e=.returned (.bool (o.rng lo hi))/\zb w w':=by
 induction m with
 |zero=>intro o v w h _;have:=o.size_pos;omega
 |succ m ih0 =>
  intro o v w hsz hv;have ih:=ih0 (by omega);clear ih0;have hn:∀(F1 F2:Nat)(o:Lfc.Ord)(v:Value)(w:World)(hF:LH F1 F2 lo hi w),o.size<=m->OrdV w o v->Calls Tryz.prog 88 #[v,.pointer (some ⟨F1,0,none⟩),.pointer (some ⟨F2,0,none⟩)] w fun e w'=>e=.returned (.bool (!o.rng lo hi))/\zb w w':=by
   intro F1 F2 o v w hF hm hv;obtain⟨kd,ar,ts⟩:=o;obtain⟨A,c,rfl,hc,hA⟩:=hv.open_;have b0:zb w (w.alloc (.cells #[zI kd,zI ar,.slice A ts.length c] 26)):=(zB _ _).alloc (zN _) _;have IH:=zH (ih _ _ _ hm (hv.below b0));have x1:=(hF.below b0).1.2;have x2:=(hF.below b0).2.2;clear ih hv hA hF;generalize (Lfc.Ord.node kd ar ts).rng lo hi=q at *;go_enter Tryz.func88,Tryz.ntmps88;go_wp2_with fail;refine IH.o.mono ?_;rintro e w1⟨rfl,hb1⟩;cases q;all_goals
    go_wp2_with fail;go_ret;exact⟨rfl,b0.trans (hb1.mono b0.size)⟩
  obtain⟨kd,ar,ts⟩:=o;obtain⟨A,c,rfl,hc,hA⟩:=hv.open_;have hsz':=hsz;simp only[Lfc.Ord.size] at hsz';have hlen:=Lfc.Ord.sizes_len ts;obtain⟨wc,hwc⟩:∃wc,((w.alloc (.cells #[zI kd,zI ar,.slice A ts.length c] 26)).alloc (.cells #[zI lo] 3)).alloc (.cells #[zI hi] 3)=wc:=⟨_,rfl⟩;have bc:zb w wc:=by rw[<-hwc];exact(((zB _ _).alloc (zN _) _).alloc (by simp) _).alloc (by simp <;> omega) _
  have hLH:LH (w.heap.size+1) (w.heap.size+2) lo hi wc:=by
   rw[<-hwc];refine⟨⟨by simp,?_⟩,⟨by simp,?_⟩⟩
   ·have h:=zW (w.alloc (.cells #[zI kd,zI ar,.slice A ts.length c] 26)) (.cells #[zI lo] 3);rw[World.size_alloc] at h;exact zC ((zA _ _ _ (by simp)).trans h) 0
   have h:=zW ((w.alloc (.cells #[zI kd,zI ar,.slice A ts.length c] 26)).alloc (.cells #[zI lo] 3)) (.cells #[zI hi] 3);rw[World.size_alloc,World.size_alloc] at h;exact zC h 0
  have hbx:wc.heap[w.heap.size]?=some (.cells #[zI kd,zI ar,.slice A ts.length c] 26 (0,0)):=by
   rw[<-hwc];exact(zA _ _ _ (by simp <;> omega)).trans ((zA _ _ _ (by simp)).trans (zW w _))
  obtain⟨y0,y1,y2⟩:=cells3o hbx;have z1:=hLH.1.2;have z2:=hLH.2.2;have HC:=zH (oArgsContains_any (w.heap.size+1) (w.heap.size+2) lo hi m (hn _ _) ts A c wc hLH (by omega) (by omega) (hA.below bc));have HB:=zH bc;have HWC:=zH hwc;rw[Lfc.Ord.rng];clear ih hn hA hv bc hLH hbx hwc;by_cases hk1:kd=1
  ·subst hk1;rw[if_pos rfl];go_enter Tryz.func56,Tryz.ntmps56;go_upto_region 1 with fail;rw[HWC.o];cases h1:decide (lo<=ar)
   ·have h1':decide (ar≥lo)=false:=h1;go_wp2_with fail;go_ret;exact⟨ret_bool (by rw[h1];rfl),HB.o⟩
   have h1':decide (ar≥lo)=true:=h1;cases h2:decide (ar<=hi);all_goals
    go_wp2_with fail;go_ret;exact⟨ret_bool (by rw[h1,h2];rfl),HB.o⟩
  have hk1f:(kd == 1)=false:=by simpa using hk1
  rw[if_neg hk1];generalize Lfc.Ord.rngs lo hi ts=q at *;go_enter Tryz.func56,Tryz.ntmps56;go_upto_region 1 with fail;rw[HWC.o];go_wp2_with fail;refine HC.o.mono ?_;rintro e w1⟨rfl,hb1⟩;cases q;all_goals
   go_wp2_with fail;go_ret;exact⟨rfl,HB.o.trans (hb1.mono HB.o.size)⟩
end
end Go.Proofs.YtadjpadieljjlaaGreat
