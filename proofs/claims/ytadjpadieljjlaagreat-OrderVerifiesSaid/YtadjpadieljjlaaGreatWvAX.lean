/- Parts of the proof that no input makes the law false: OvFt, SmSame, OvCh. -/
import Derived.BigRegion
import Derived.Test.YtadjpadieljjlaaGreatWvAW
set_option linter.unusedVariables false
set_option linter.unusedSimpArgs false
set_option maxRecDepth 100000
set_option maxHeartbeats 32000000
namespace Go.Proofs.YtadjpadieljjlaaGreat
section
open Go.RowKit Go.Maps _root_.Lfc
attribute [local go_sem ↓] Go.wp_at_zero Go.wp_at_succ
theorem trees_two{W:World}{g:Nat}{a0 a1 a2 a3 b0 b1 b2 b3:Value}{T:TypeId}{t u:Raw}(hq:W.heap[g]?=some (.cells #[a0,a1,a2,a3,b0,b1,b2,b3] T (0,0)))(ht:TreeV W t (.agg #[a0,a1,a2,a3]))(hu:TreeV W u (.agg #[b0,b1,b2,b3])):TreesAt W (some ⟨g,0,none⟩) [t,u]:=fun _=>by
 obtain⟨v0,v1,v2,v3,he,hc⟩:=ht;obtain⟨u0,u1,u2,u3,he',hc'⟩:=hu;injection he with he;injection he' with he';simp only[Array.mk.injEq,List.cons.injEq,and_true] at he he';obtain⟨rfl,rfl,rfl,rfl⟩:=he;obtain⟨rfl,rfl,rfl,rfl⟩:=he';refine⟨g,0,rfl,zL hq,?_⟩;rw[TreesO,TreesO,TreesO];exact⟨⟨_,_,_,_,zC hq 0,zC hq 1,zC hq 2,zC hq 3,hc⟩,⟨_,_,_,_,zC hq 4,zC hq 5,zC hq 6,zC hq 7,hc'⟩,trivial⟩
theorem rFits_any(t u:Raw)(vt vu:Value)(path:List Int)(A1:Option Addr)(c1:Nat)(ks:List Int)(A0:Option Addr)(c0:Nat)(w:World)(hpl:path.length<=1000000)(hks:ks.length<=1000000)(ht:t.size<=1000000)(hu:u.size<=1000000)(hA1:IntsO w A1 path)(hA0:IntsO w A0 ks)(hv:TreeV w t vt)(hv':TreeV w u vu) :
  Calls Tryz.prog 98 #[vt,vu,.slice A1 path.length c1,.slice A0 ks.length c0] w fun e w'=>e=.returned (.bool (Raw.fits ks t u path))/\zb w w':=by
 have HV:=zH hv;have HV':=zH hv';have HF:Hid (Raw.fits ks t u path=(t.isO && u.isO && Raw.fit ks t path u 0)):=zH rfl;obtain⟨A,c,kd,nm,ps,xs,hT,rfl⟩:∃A c kd nm ps xs,t=.node kd nm ps xs/\vt=.agg (zT kd nm ps A xs c):=by
  obtain⟨kd,nm,ps,ts⟩:=t;obtain⟨A,c,rfl,hc,hA⟩:=hv.open_;exact⟨A,c,kd,nm,ps,ts,rfl,rfl⟩
 obtain⟨A',c',kd',nm',ps',ys,hU,rfl⟩:∃A c kd nm ps xs,u=.node kd nm ps xs/\vu=.agg (zT kd nm ps A xs c):=by
  obtain⟨kd,nm,ps,ts⟩:=u;obtain⟨A,c,rfl,hc,hA⟩:=hv'.open_;exact⟨A,c,kd,nm,ps,ts,rfl,rfl⟩
 obtain⟨w1,hw1⟩:∃w1,w.alloc (.cells (zT kd nm ps A xs c) 51)=w1:=⟨_,rfl⟩;obtain⟨w2,hw2⟩:∃w2,w1.alloc (.cells (zT kd' nm' ps' A' ys c') 51)=w2:=⟨_,rfl⟩;have b1:=zG hw1;have b2:=zG hw2;have q1:=zQ hw1;have q2:=zQ hw2;have l1:=zL q1;have l2:=zL q2;have b02:zb w w2:=b1.trans (b2.mono (by omega));have Q1:=zH ((b2.block _ l1).trans q1);have Q2:=zH q2;have B02:=zH b02;have HA1:=zH hA1;have HA0:=zH hA0;have HT:=zH hT;have HU:=zH hU;have s02:w.heap.size<=w2.heap.size:=by omega
 obtain⟨y0,y1,y2,y3⟩:=cells4t Q1.o;have B03:=B02;clear B02;obtain⟨z0,z1,z2,z3⟩:=cells4t Q2.o;obtain⟨w3,hw3⟩:∃w3,w2.alloc (.cells #[zI kd,S nm,zI ps,.slice A xs.length c,zI kd',S nm',zI ps',.slice A' ys.length c'] 51)=w3:=⟨_,rfl⟩;have b3:=zG hw3;have q3:=zQ hw3;have l3:=zL q3;have b03:zb w w3:=B03.o.trans (b3.mono s02);have CO:Hid (Calls Tryz.prog 65 #[.slice (some ⟨w2.heap.size,0,none⟩) 2 2] w3 fun e w'=>e=.returned (.bool (allO [t,u]))/\zb w3 w'):=zH (rObjects_any [t,u] (some ⟨w2.heap.size,0,none⟩) 2 w3 (by simp) (by intro x hx;simp at hx;rcases hx with rfl | rfl <;> omega) (trees_two q3 (HV.o.below b03) (HV'.o.below b03)));have HAO:Hid (allO [t,u]=(t.isO && u.isO)):=zH (by rw[allO,allO,allO,Bool.and_true]);have HOT:Hid (t.isO=true->t.obj=true):=zH (fun h=>by rw[Raw.isO,Za] at h;exact h.1);have HOU:Hid (u.isO=true->u.obj=true):=zH (fun h=>by rw[Raw.isO,Za] at h;exact h.1);rw[HAO.o] at CO;rw[HF.o];clear HF hT hU hv hv' hA0 hA1 b1 b2 q1 q2 b02 HAO q3;have B3:=zH b3;have B03':=zH b03;have s03:=b03.size;clear b3 b03;obtain⟨qt,hqt⟩:∃qt,t.isO=qt:=⟨_,rfl⟩;obtain⟨qu,hqu⟩:∃qu,u.isO=qu:=⟨_,rfl⟩;rw[hqt] at CO HOT ⊢;rw[hqu] at CO HOU ⊢;clear hqt hqu;obtain⟨qo,hqo⟩:∃qo,(qt && qu)=qo:=⟨_,rfl⟩;rw[hqo] at CO ⊢;have HQO:=zH hqo;clear hqo;obtain⟨tot,htot⟩:∃tot,Raw.fit ks t path u 0=tot:=⟨_,rfl⟩;rw[htot];have HTOT:=zH htot;clear htot;cases qo
 ·go_enter Tryz.func98,Tryz.ntmps98;go_wp2_with fail;refine CO.o.mono ?_;rintro e w4⟨rfl,b4'⟩;have HZ:=zH (B03'.o.trans (b4'.mono s03));clear b4';go_wp2_with fail;go_ret;exact⟨by rw[Bool.false_and];rfl,HZ.o⟩
 have HQ:Hid (t.obj=true/\u.obj=true):=zH (by
  have h:=HQO.o;rw[Za] at h;exact⟨HOT.o h.1,HOU.o h.2⟩)
 clear HOT HOU HQO;rw[Bool.true_and];go_enter Tryz.func98,Tryz.ntmps98;go_wp2_with fail;refine CO.o.mono ?_;rintro e w4⟨rfl,b4'⟩;have b4:zb w2 w4:=B3.o.trans (b4'.mono B3.o.size);clear b4' y0 y1 y2 y3 z0 z1 z2 z3 CO;have s4:=b4.size;have B4:=zH b4;have I0:Hid (FitI w w4 w.heap.size w1.heap.size ks t path tot u.size 0 0 kd' ps' nm' ys A' c' w4):=zH ⟨by rw[List.drop_zero,<-HU.o];exact HTOT.o.symm,(b4.block _ l2).trans Q2.o,by rw[<-HU.o];exact HV'.o,by rw[<-HU.o];exact HQ.o.2,by rw[<-HU.o];exact zN _,Oth.refl _ _⟩;have Q4:=zH ((b4.block _ (by omega)).trans Q1.o);have HW4:=zH (B03.o.trans (b4.mono s02));clear b4;go_wp2_with fail;go_loopw [9,10] (fun x i wr=>∃(j cr:Nat)(kq pq:Int)(nq:List UInt8)(zs:List Raw)(Aq:Option Addr)(cq:Nat),j<=path.length/\cr<=j/\x=zI (cr:Int)/\i=zI (j:Int)/\Hid (FitI w w4 w.heap.size w1.heap.size ks t path tot u.size j cr kq pq nq zs Aq cq wr)) (fun x i _=>path.length-(intOf i).toNat);case atStart=>exact⟨0,0,kd',ps',nm',ys,A',c',by omega,by omega,rfl,rfl,I0⟩
 clear I0 hw1 hw2 hw3;obtain⟨j,cr,kq,pq,nq,zs,Aq,cq,hj,hcr,rfl,rfl,HI⟩:=hrel;have hsw:=HI.o.oth.size;have hbw:zb w wr:=Oth.below HW4.o HI.o.oth (by omega) (by omega);have HBW:=zH hbw;by_cases hlt:j<path.length
 ·obtain⟨b,o,rfl,hb,hx⟩:=HA1.o (by intro h0;rw[h0] at hlt;simp at hlt);have hx0:=hx j hlt;have hi0:=zP j;have hi1:(j:Int)<(path.length:Int):=by omega
  have hgd:path.getD j 0=path[j]:=by rw[List.getD_eq_getElem?_getD,Zg hlt];rfl
  have HDR:=zH (HI.o.fit.trans (by rw[List.drop_eq_getElem_cons hlt]:_=Raw.fit ks t (path[j] :: path.drop (j+1)) (.node kq nq pq zs) cr));rw[hgd] at hx0;obtain⟨z,hz⟩:∃z,path[j]=z:=⟨_,rfl⟩;rw[hz] at hx0 HDR;have SC:Hid (∀W,zb wr W->(zc W w1.heap.size 0 (zI kq)/\zc W w1.heap.size 1 (S nq)/\zc W w1.heap.size 2 (zI pq)/\zc W w1.heap.size 3 (.slice Aq zs.length cq))/\zc W b (o+j) (zI z)):=zH (fun W hW=>⟨cells4t ((hW.block _ (zL HI.o.box)).trans HI.o.box),((HBW.o.trans (hW.mono HBW.o.size)).cell (p:=⟨b,o+j,none⟩) hb).trans hx0⟩);have CP:=zH (fun W (hW:zb wr W)=>rPassable_any ks A0 c0 cr _ _ W (by omega) hks (HA0.o.below (HBW.o.trans (hW.mono HBW.o.size))) (HI.o.v.below (HBW.o.trans (hW.mono HBW.o.size))) HI.o.obj);have CU:=zH (fun(i:Int) W=>rUnderO_any kq pq i nq Aq zs.length cq W (by have:=HI.o.obj;exact(obj_parts this).1));obtain⟨pb,hpb⟩:∃pb,Raw.pas ks cr (.node kq nq pq zs)=pb:=⟨_,rfl⟩;rw[hpb] at CP;have HPB:=zH hpb;obtain⟨⟨z0,z1,z2,z3⟩,hx1⟩:=SC.o _ (zB _ _);clear hx hx0 hgd hz hpb hbw hb;go_upto_region 7 with fail;have b7d:zb wr wr.drew:=(zB _ _).drew;refine wp_region_held_drew (S:=fun W=>(zc W w1.heap.size 0 (zI kq)/\zc W w1.heap.size 1 (S nq)/\zc W w1.heap.size 2 (zI pq)/\zc W w1.heap.size 3 (.slice Aq zs.length cq))/\zc W b (o+j) (zI z)) (by kernel_rfl) ?_ (fun hH=>?_)
  ·exact SC.o _ b7d
  clear z0 z1 z2 z3 hx1;refine tk 0 ?_;refine tk 1 ?_;refine tk 2 ?_;refine rd1 3 (fun K hK=>?_);go_simp;go_at_call 111;refine(CP.o _ b7d).mono ?_;rintro e w5⟨rfl,b5'⟩;have bw5:zb wr w5:=b7d.trans (b5'.mono b7d.size);clear b5';refine hK.out _ _ ?_ (fun hH=>?_)
  ·(try dsimp only)
   exact SC.o _ bw5
  clear hK K;refine nrm ?_;cases pb
  ·have HN:Hid (tot=false):=zH (HDR.o.trans (Raw.fit_no (.inl HPB.o)));refine tk 4 ?_;refine tk 5 ?_;refine zX 6 ?_;refine nrm ?_;refine zX 7 ?_;refine nrm ?_;refine zX 8 ?_;refine nrm ?_;refine zX 9 ?_;refine nrm ?_;refine zX 10 ?_;refine nrm ?_;refine tk 11 ?_;refine tk 12 ?_;refine zX 13 ?_;refine nrm ?_;refine zX 14 ?_;refine nrm ?_;refine zX 15 ?_;refine nrm ?_;refine zX 16 ?_;refine nrm ?_;refine zX 17 ?_;refine nrm ?_;refine zX 18 ?_;refine nrm ?_;refine zX 19 ?_;refine nrm ?_;refine zX 20 ?_;refine nrm ?_;refine tk 21 ?_;refine Zw ?_ _;go_wp2_with fail;go_ret;exact⟨by rw[HN.o];rfl,HBW.o.trans (bw5.mono HBW.o.size)⟩
  by_cases hz0:z<0
  ·have HN:Hid (tot=false):=zH (HDR.o.trans (Raw.fit_no (.inr (.inl hz0))));have hd1:decide (z<0)=true:=Zt hz0;refine tk 4 ?_;refine tk 5 ?_;refine tk 6 ?_;refine tk 7 ?_;refine tk 8 ?_;refine tk 9 ?_;refine tk 10 ?_;refine tk 11 ?_;refine tk 12 ?_;refine zX 13 ?_;refine nrm ?_;refine zX 14 ?_;refine nrm ?_;refine zX 15 ?_;refine nrm ?_;refine zX 16 ?_;refine nrm ?_;refine zX 17 ?_;refine nrm ?_;refine zX 18 ?_;refine nrm ?_;refine zX 19 ?_;refine nrm ?_;refine zX 20 ?_;refine nrm ?_;refine tk 21 ?_;refine Zw ?_ _;go_wp2_with fail;go_ret;exact⟨by rw[HN.o];rfl,HBW.o.trans (bw5.mono HBW.o.size)⟩
  have hd1:decide (z<0)=false:=Zu hz0;refine tk 4 ?_;refine tk 5 ?_;refine tk 6 ?_;refine tk 7 ?_;refine tk 8 ?_;refine tk 9 ?_;refine tk 10 ?_;by_cases hzl:(zs.length:Int)<=z
  ·have HN:Hid (tot=false):=zH (HDR.o.trans (Raw.fit_no (.inr (.inr hzl))));have hd2:decide ((zs.length:Int)<=z)=true:=Zt hzl;have hd3:decide (z≥(zs.length:Int))=true:=Zt hzl;refine tk 11 ?_;refine tk 12 ?_;refine tk 13 ?_;refine tk 14 ?_;refine tk 15 ?_;refine tk 16 ?_;refine tk 17 ?_;refine tk 18 ?_;refine tk 19 ?_;refine tk 20 ?_;refine tk 21 ?_;refine Zw ?_ _;go_wp2_with fail;go_ret;exact⟨by rw[HN.o];rfl,HBW.o.trans (bw5.mono HBW.o.size)⟩
  obtain⟨q,rfl⟩:∃q:Nat,z=q:=⟨z.toNat,by omega⟩;have hql:q<zs.length:=by omega
  have hd2:decide ((zs.length:Int)<=(q:Int))=false:=Zu hzl;have hd3:decide ((q:Int)≥(zs.length:Int))=false:=Zu hzl;have hd4:decide (zs.length<=q)=false:=Zu (by omega);have hq0:=zP q;have hq1:(q:Int)<(zs.length:Int):=by omega
  refine tk 11 ?_;refine tk 12 ?_;refine tk 13 ?_;refine tk 14 ?_;refine tk 15 ?_;refine tk 16 ?_;refine tk 17 ?_;refine tk 18 ?_;refine tk 19 ?_;refine tk 20 ?_;refine tk 21 ?_;refine Zw ?_ _;clear hH;have hz0':=hd1;clear hd1 hd2 hd3 hd4;obtain⟨⟨z0,z1,z2,z3⟩,hx1⟩:=SC.o _ bw5;obtain⟨b',o',k2,n2,p2,us,B',cc2,hAq,hb',ht',e0,e1,e2,e3,hcu',hB',hT'⟩:=HI.o.v.parts.1.at_ hql;have HT2:=zH hT';have FC:Hid (∀W,zb wr W->zc W b' (o'+q*4) (zI k2)/\zc W b' (o'+q*4+1) (S n2)/\zc W b' (o'+q*4+2) (zI p2)/\zc W b' (o'+q*4+3) (.slice B' us.length cc2)):=zH (fun W hW=>by
   have hbW:=HBW.o.trans (hW.mono HBW.o.size);exact⟨(hbW.cell (p:=⟨b',o'+q*4,none⟩) hb').trans e0,(hbW.cell (p:=⟨b',o'+q*4+1,none⟩) hb').trans e1,(hbW.cell (p:=⟨b',o'+q*4+2,none⟩) hb').trans e2,(hbW.cell (p:=⟨b',o'+q*4+3,none⟩) hb').trans e3⟩)
  have HTE:=zH ht';clear hT' e0 e1 e2 e3 hcu' hB' ht' hb';subst hAq;go_upto_region 9 with fail;have bw5d:=bw5.drew;refine wp_region_held_drew (S:=fun W=>(zc W w1.heap.size 0 (zI kq)/\zc W w1.heap.size 1 (S nq)/\zc W w1.heap.size 2 (zI pq)/\zc W w1.heap.size 3 (.slice (some ⟨b',o',none⟩) zs.length cq))/\zc W b (o+j) (zI (q:Int))) (by kernel_rfl) ?_ (fun hH=>?_)
  ·exact SC.o _ bw5d
  clear z0 z1 z2 z3 hx1;refine tk 0 ?_;refine tk 1 ?_;refine tk 2 ?_;refine tk 3 ?_;refine tk 4 ?_;refine tk 5 ?_;refine rd1 6 (fun K hK=>?_);go_simp;go_at_call 76;refine(CU.o (q:Int) _).mono ?_;rintro e w7⟨rfl,b7'⟩;have bw7:zb wr w7:=bw5d.trans (b7'.mono bw5d.size);clear b7';refine hK.out _ _ ?_ (fun hH=>?_)
  ·(try dsimp only)
   exact SC.o _ bw7
  clear hK K;refine nrm ?_;refine tk 7 ?_;refine tk 8 ?_;refine Zw ?_ _;clear hH;obtain⟨⟨z0,z1,z2,z3⟩,hx1⟩:=SC.o _ bw7;obtain⟨f0,f1,f2,f3⟩:=FC.o _ bw7;go_upto_region 10 with fail;refine Zs 8 ?_;simp only[Zc,List.take_zero,List.drop_succ_cons,List.drop_zero];change wpStill Tryz.prog _ w7.drew _ _ _;repeat still_step
  try refine wpStill_nil ?_
  change wpList _ _ _ _ _ w7.drew;obtain⟨w8,hw8⟩:∃v,w7.drew=v:=⟨_,rfl⟩;rw[hw8];have bw8:zb wr w8:=by rw[<-hw8];exact bw7.drew
  clear hw8;clear z0 z1 z2 z3 hx1 f0 f1 f2 f3;obtain⟨s1,s2,s3,s4,g1,g2,g3,g4,⟨r0,r1,r2,r3⟩,⟨t0,t1,t2,t3⟩,hq6,ho6⟩:=tput4 ((bw8.block _ (zL HI.o.box)).trans HI.o.box) (zI k2) (S n2) (zI p2) (.slice B' us.length cc2);have hmem:=Raw.sizes_mem zs zs[q] (Ze _);have hobj:=Raw.obj_args HI.o.obj q hql;have hszq:=HI.o.size;rw[Raw.size] at hszq;have HN2:Hid (FitI w w4 w.heap.size w1.heap.size ks t path tot u.size (j+1) (if kq=3 then cr+1 else cr) k2 p2 n2 us B' cc2 s4):=zH (by
   refine⟨?_,hq6,by rw[<-HTE.o];exact HT2.o,by rw[<-HTE.o];exact hobj,by rw[<-HTE.o];omega,(HI.o.oth.trans (zE bw8)).trans ho6⟩;rw[HDR.o,Raw.fit_go HPB.o hql,HTE.o])
  clear hq6 ho6 hobj hszq hmem;obtain⟨crn,hcrn⟩:∃crn,(if kq=3 then cr+1 else cr)=crn:=⟨_,rfl⟩;rw[hcrn] at HN2;have hwc:IntKind.i64.wrap ((cr:Int)+(if kq=3 then 1 else 0))=(crn:Int):=by
   rw[Zi _ (by split <;> omega),<-hcrn];split <;> omega
  have hx2:((cr:Int)+if kq=3 then 1 else 0)=(crn:Int):=by rw[<-hcrn];split <;> omega
  have hcrj:crn<=j+1:=by rw[<-hcrn];split <;> omega
  clear hcrn;try rw[hwc]
  go_wp2_with fail;go_roundw;case rel=>exact⟨j+1,crn,k2,p2,n2,us,B',cc2,by omega,hcrj,by first | rfl | rw[hx2],by go_num,HN2⟩
  case measure=>simp[intOf];omega
 obtain rfl:j=path.length:=by omega
 obtain⟨y0,y1,y2,y3⟩:=cells4t (HI.o.oth.heap Q4.o (show w.heap.size≠w1.heap.size by omega));obtain⟨z0,z1,z2,z3⟩:=cells4t HI.o.box;have HE2:Hid (tot=Raw.stands ks cr (.node kq nq pq zs) t):=zH (by rw[HI.o.fit,List.drop_length,Raw.fit]);have CS:=zH (rHere_any (.node kq nq pq zs) t _ _ cr ks A0 c0 wr (by omega) hks (by have:=HI.o.size;omega) HI.o.obj HQ.o.1 (HA0.o.below hbw) (HI.o.v.below hbw) (HV.o.below hbw));rw[<-HE2.o] at CS;clear HI hbw;go_wp2_with fail;refine CS.o.mono ?_;rintro e w5⟨rfl,b5⟩;go_wp2_with fail;go_ret;exact⟨rfl,HBW.o.trans (b5.mono HBW.o.size)⟩
end
section
open Go.RowKit _root_.Lfc
theorem kept5{w w1:World}{p:Addr}{v:Value}(h:Below w.drew.heap.size w.drew w1)(hp:p.block<w.heap.size)(hv:w.cell? p=some v):w1.cell? p=some v:=(h.cell hp).trans hv
theorem sSame_upto(m:Nat)(hmm:m≤1000000000):∀(t u:Raw)(v v':Value)(w:World),t.size≤m→TreeV w t v→TreeV w u v' →
  Calls Tryz.prog 22 #[v,v'] w fun e w'=>e=.returned (.bool (Raw.tsm t u))∧Below w.heap.size w w':=by
 induction m with
 |zero=>intro t u v v' w h _ _;have:=t.size_pos;omega
 |succ m ih =>
  intro t u v v' w hsz hv hv';obtain⟨kd,nm,ps,ts⟩:=t;obtain⟨kd',nm',ps',us⟩:=u;obtain⟨A,c,rfl,hc,hA⟩:=hv.open_;obtain⟨A',c',rfl,hc',hA'⟩:=hv'.open_;simp only[Raw.size] at hsz;have hlen:=Raw.sizes_len ts;obtain⟨w0,hw0⟩:∃w0,(w.alloc (.cells #[.int .i64 kd,S nm,.int .i64 ps,.slice A ts.length c] 51)).alloc (.cells #[.int .i64 kd',S nm',.int .i64 ps',.slice A' us.length c'] 51)=w0:=⟨_,rfl⟩;have b0:Below w.heap.size w w0:=by rw[←hw0];exact((zB _ _).alloc (zN _) _).alloc (by simp) _
  have s0:w.heap.size+1<w0.heap.size:=by rw[←hw0];simp
  have hx1:w0.cell? ⟨w.heap.size,3,none⟩=some (.slice A ts.length c):=by rw[←hw0];simp
  have hx2:w0.cell? ⟨w.heap.size+1,3,none⟩=some (.slice A' us.length c'):=by
   rw[←hw0];have h:=zC (zW (w.alloc (.cells #[.int .i64 kd,S nm,.int .i64 ps,.slice A ts.length c] 51)) (.cells #[.int .i64 kd',S nm',.int .i64 ps',.slice A' us.length c'] 51)) 3;rw[show(w.alloc (.cells #[.int .i64 kd,S nm,.int .i64 ps,.slice A ts.length c] 51)).heap.size=w.heap.size+1 by simp] at h;exact h
  have IH:=zH (ih (by omega));have HA:=zH (hA.below b0);have HA':=zH (hA'.below b0);have HX1:=zH hx1;have HX2:=zH hx2;have hsame:Raw.tsm (.node kd nm ps ts) (.node kd' nm' ps' us)=(decide (kd=kd') && decide (ps=ps') && (decide (nm=nm') || decide (kd=2) || decide (kd=3)) && Raw.tsms ts us):=by
   rw[Raw.tsm]
  have HW0:=zH hw0;clear ih hA hA' hv hv' hx1 hx2 hw0;by_cases h1:kd=kd'∧ps=ps'∧(nm=nm'∨kd=2∨kd=3)∧ts.length=us.length
  ·obtain⟨h1,h2,h3,hl⟩:=h1;have g1:((kd:Int) != kd')=false:=(by simp[h1]);have g2:((ps:Int) != ps')=false:=(by simp[h2]);have g3:((ts.length:Int) != (us.length:Int))=false:=(by simp;omega);have hps:(decide (nm=nm') || decide (kd=2) || decide (kd=3))=true:=by
    rcases h3 with h | h | h <;> simp[h]
   rw[hsame,Zt h1,Zt h2,hps,Bool.true_and,Bool.true_and,Bool.true_and];have HS:=zH (tsms_spec ts us);have HF:=zH (tsms_false ts us);have HL:=zH hl;generalize Raw.tsms ts us=res at *;have hat:((kd != 2)=false)∨((kd != 2)=true∧(kd != 3)=false)∨((kd != 2)=true∧(kd != 3)=true∧(nm == nm')=true):=by
    by_cases e2:kd=2
    ·exact .inl (by simp[e2])
    by_cases e3:kd=3
    ·exact .inr (.inl ⟨by simp[e2],by simp[e3]⟩)
    rcases h3 with h | h | h
    ·exact .inr (.inr ⟨by simp[e2],by simp[e3],by simp[h]⟩)
    ·exact absurd h e2
    exact absurd h e3
   clear hsame h1 h2 h3 hps hl;rcases hat with g4 | ⟨g4,g5⟩ | ⟨g4,g5,g6⟩;all_goals
    go_enter Tryz.func22,Tryz.ntmps22;go_wp2_with fail;rw[HW0.out];generalize hG:w.heap.size=G at *;have HGG:=zH hG;clear hG;go_loopw [5] (fun i wr=>∃k:Nat,k≤ts.length∧i=.int .i64 k∧Below w0.heap.size w0 wr∧Hid (∀j(h:j<ts.length)(h':j<us.length),j<k→Raw.tsm ts[j] us[j]=true)) (fun i _=>ts.length-(intOf i).toNat);case atStart=>exact⟨0,by omega,rfl,zB _ _,zH fun j _ _ hj=>by omega⟩
    obtain⟨k,hk,rfl,hbw,hp⟩:=hrel;have hbx1:wr.cell? ⟨G,3,none⟩=some (.slice A ts.length c):=(hbw.cell (p:=⟨G,3,none⟩) (by simp only;omega)).trans HX1.out;by_cases hlt:k<ts.length
    ·have hlt':k<us.length:=(by have:=HL.out;omega);have hbx2:wr.cell? ⟨G+1,3,none⟩=some (.slice A' us.length c'):=(hbw.cell (p:=⟨G+1,3,none⟩) s0).trans HX2.out;obtain⟨b,o,k1,n1,p1,xs,B,c1,rfl,hb,ht,d0,d1,d2,d3,hcu,hB,hT⟩:=(HA.out.below hbw).at_ hlt;obtain⟨b',o',k2,n2,p2,ys,B',c2,rfl,hb',ht',e0,e1,e2,e3,hcu',hB',hT'⟩:=(HA'.out.below hbw).at_ hlt';have hmem:=Raw.sizes_mem ts ts[k] (Ze _);clear hB hB' ht ht';have hk0:=zP k;have hk1:(k:Int)<(ts.length:Int):=(by omega);have hk2:(k:Int)<(us.length:Int):=(by omega);have b1:Below wr.heap.size wr wr.drew:=(zB _ _).drew;have hws:=hbw.size;cases hq:Raw.tsm ts[k] us[k]
     ·have hres:=HF.out k hlt hlt' hq;subst hres;have HQ:=zH hq;clear hq;go_wp2_with fail;go_region_held3 (fun w'=>w'.cell? ⟨G,3,none⟩=some (.slice (some ⟨b,o,none⟩) ts.length c)∧w'.cell? ⟨G+1,3,none⟩=some (.slice (some ⟨b',o',none⟩) us.length c') ∧
        w'.cell? ⟨b,o+k*4,none⟩=some (.int .i64 k1)∧w'.cell? ⟨b,o+k*4+1,none⟩=some (S n1)∧w'.cell? ⟨b,o+k*4+2,none⟩=some (.int .i64 p1)∧w'.cell? ⟨b,o+k*4+3,none⟩=some (.slice B xs.length c1) ∧
        w'.cell? ⟨b',o'+k*4,none⟩=some (.int .i64 k2)∧w'.cell? ⟨b',o'+k*4+1,none⟩=some (S n2)∧w'.cell? ⟨b',o'+k*4+2,none⟩=some (.int .i64 p2)∧w'.cell? ⟨b',o'+k*4+3,none⟩=some (.slice B' ys.length c2))
       (first | go_keep | exact⟨kept5 hb1 (by simp only;omega) hbx1,kept5 hb1 (by simp only;omega) hbx2,kept5 hb1 hb d0,kept5 hb1 hb d1,kept5 hb1 hb d2,kept5 hb1 hb d3,kept5 hb1 hb' e0,kept5 hb1 hb' e1,kept5 hb1 hb' e2,kept5 hb1 hb' e3⟩)
       (first | (go_at_call 22;refine(IH.out ts[k] us[k] _ _ _ (by omega) (hT.below b1) (hT'.below b1)).mono ?_;rintro e w1⟨rfl,hb1⟩;rw[HQ.out]))
      go_wp2_with fail;go_ret;exact⟨rfl,by rw[HGG.out];exact b0.trans ((hbw.mono (by omega)).trans ((b1.trans hb1).mono (zR (by omega) hbw.size)))⟩
     have HQ:=zH hq;clear hq;go_wp2_with fail;go_region_held3 (fun w'=>w'.cell? ⟨G,3,none⟩=some (.slice (some ⟨b,o,none⟩) ts.length c)∧w'.cell? ⟨G+1,3,none⟩=some (.slice (some ⟨b',o',none⟩) us.length c') ∧
       w'.cell? ⟨b,o+k*4,none⟩=some (.int .i64 k1)∧w'.cell? ⟨b,o+k*4+1,none⟩=some (S n1)∧w'.cell? ⟨b,o+k*4+2,none⟩=some (.int .i64 p1)∧w'.cell? ⟨b,o+k*4+3,none⟩=some (.slice B xs.length c1) ∧
       w'.cell? ⟨b',o'+k*4,none⟩=some (.int .i64 k2)∧w'.cell? ⟨b',o'+k*4+1,none⟩=some (S n2)∧w'.cell? ⟨b',o'+k*4+2,none⟩=some (.int .i64 p2)∧w'.cell? ⟨b',o'+k*4+3,none⟩=some (.slice B' ys.length c2))
      (first | go_keep | exact⟨kept5 hb1 (by simp only;omega) hbx1,kept5 hb1 (by simp only;omega) hbx2,kept5 hb1 hb d0,kept5 hb1 hb d1,kept5 hb1 hb d2,kept5 hb1 hb d3,kept5 hb1 hb' e0,kept5 hb1 hb' e1,kept5 hb1 hb' e2,kept5 hb1 hb' e3⟩)
      (first | (go_at_call 22;refine(IH.out ts[k] us[k] _ _ _ (by omega) (hT.below b1) (hT'.below b1)).mono ?_;rintro e w1⟨rfl,hb1⟩;rw[HQ.out]))
     go_wp2_with fail;go_roundw;case rel =>
      refine⟨k+1,by omega,by go_num,hbw.trans ((b1.trans hb1).mono hbw.size),zH fun j h h' hj=>?_⟩;rcases Nat.lt_or_ge j k with h1 | h1
      ·exact hp.out j h h' h1
      obtain rfl:j=k:=(by omega);exact HQ.out
     case measure=>simp[intOf];omega
    have hres:=HS.out.2 ⟨HL.out,fun j h h'=>hp.out j h h' (by omega)⟩;subst hres;go_wp2_with fail;go_ret;exact⟨rfl,by rw[HGG.out];exact b0.trans (hbw.mono (by omega))⟩
  rw[hsame];have HN:=zH h1;clear hsame h1;by_cases c1:kd=kd'
  ·have g1:((kd:Int) != kd')=false:=(by simp[c1]);by_cases c2:ps=ps'
   ·have g2:((ps:Int) != ps')=false:=(by simp[c2]);by_cases c3:ts.length=us.length
    ·have g3:((ts.length:Int) != (us.length:Int))=false:=(by simp;omega);have c4:¬(nm=nm'∨kd=2∨kd=3):=fun h=>HN.out ⟨c1,c2,h,c3⟩;have g4:(kd != 2)=true:=(by simp;exact fun h=>c4 (.inr (.inl h)));have g5:(kd != 3)=true:=(by simp;exact fun h=>c4 (.inr (.inr h)));have g6:(nm == nm')=false:=(by simp;exact fun h=>c4 (.inl h));have e:(decide (kd=kd') && decide (ps=ps') && (decide (nm=nm') || decide (kd=2) || decide (kd=3)) && Raw.tsms ts us)=false:=by
      rw[show(decide (nm=nm') || decide (kd=2) || decide (kd=3))=false by
       rw[Zu (fun h=>c4 (.inl h)),Zu (fun h=>c4 (.inr (.inl h))),Zu (fun h=>c4 (.inr (.inr h)))];rfl]
      simp
     rw[e];clear e c1 c2 c3 c4;go_enter Tryz.func22,Tryz.ntmps22;go_wp2_with fail;rw[HW0.out];go_ret;exact⟨rfl,b0⟩
    have g3:((ts.length:Int) != (us.length:Int))=true:=(by simp;omega);have e:(decide (kd=kd') && decide (ps=ps') && (decide (nm=nm') || decide (kd=2) || decide (kd=3)) && Raw.tsms ts us)=false:=(by simp[tsms_len ts us c3]);rw[e];clear e c1 c2 c3;go_enter Tryz.func22,Tryz.ntmps22;go_wp2_with fail;rw[HW0.out];go_ret;exact⟨rfl,b0⟩
   have g2:((ps:Int) != ps')=true:=(by simp[c2]);have e:(decide (kd=kd') && decide (ps=ps') && (decide (nm=nm') || decide (kd=2) || decide (kd=3)) && Raw.tsms ts us)=false:=(by simp[c2]);rw[e];clear e c1 c2;go_enter Tryz.func22,Tryz.ntmps22;go_wp2_with fail;rw[HW0.out];go_ret;exact⟨rfl,b0⟩
  have g1:((kd:Int) != kd')=true:=by simp[c1]
  have e:(decide (kd=kd') && decide (ps=ps') && (decide (nm=nm') || decide (kd=2) || decide (kd=3)) && Raw.tsms ts us)=false:=by simp[c1]
  rw[e];clear e c1;go_enter Tryz.func22,Tryz.ntmps22;go_wp2_with fail;rw[HW0.out];go_ret;exact⟨rfl,b0⟩
end
end Go.Proofs.YtadjpadieljjlaaGreat
namespace Lfc
theorem nul_bits{yt:Raw}{ku pu:Int}{nu:List UInt8}{zs:List Raw}{e1 e2 e3 e4:Bool}(h:yt=.node ku nu pu zs)(h1:decide (ku=0)=e1)(h2:decide (nu=[])=e2)(h3:decide (pu=0)=e3)(h4:decide (zs.length=0)=e4):yt.nul=(((e1 && e2) && e3) && e4):=by
 rw[h,Raw.nul,h1,h2,h3,h4]
end Lfc
namespace Go.Proofs.YtadjpadieljjlaaGreat
open Go.RowKit Go.Maps _root_.Lfc
attribute [local go_sem ↓] Go.wp_at_zero Go.wp_at_succ
def ChAns(f:Int)(w:World)(e:Ending)(w':World):Prop:=(∃s:Bool,e=.returned (.tuple #[.bool (decide (f≠0)),.bool s])∧(f≠0→s=decide (f=2)))∧Below w.heap.size w w'
theorem chAns_no{f:Int}{w w':World}(h:f=0)(hb:Below w.heap.size w w'):ChAns f w (.returned (.tuple #[.bool false,.bool false])) w':=by
 subst h;exact⟨⟨false,rfl,fun h=>absurd rfl h⟩,hb⟩
def TwoB(w:World)(g h:Nat)(L R:Array Value)(wx:World):Prop:=Below w.heap.size w wx∧w.heap.size≤g∧w.heap.size≤h∧g≠h∧wx.heap[g]?=some (.cells L 51 (0,0))∧wx.heap[h]?=some (.cells R 51 (0,0))
theorem twoA(w:World)(L R:Array Value):TwoB w w.heap.size (w.heap.size+1) L R (((w.alloc (.cells L 51)).alloc (.cells R 51)).drew):=by
 obtain⟨v1,h1⟩:∃v,w.alloc (.cells L 51)=v:=⟨_,rfl⟩;have b1:Below w.heap.size w v1:=by rw[←h1];exact(zB _ _).alloc (zN _) _
 have q1:v1.heap[w.heap.size]?=some (.cells L 51 (0,0)):=by rw[←h1];exact zW _ _
 have s1:v1.heap.size=w.heap.size+1:=by rw[←h1];simp
 rw[h1];obtain⟨v2,h2⟩:∃v,v1.alloc (.cells R 51)=v:=⟨_,rfl⟩;have b2:Below v1.heap.size v1 v2:=by rw[←h2];exact(zB _ _).alloc (zN _) _
 have q2:v2.heap[v1.heap.size]?=some (.cells R 51 (0,0)):=by rw[←h2];exact zW _ _
 rw[h2];have l1:=zL q1;have e1:=(b2.block _ l1).trans q1;rw[s1] at q2;exact⟨(b1.trans (b2.mono (by omega))).drew,zN _,by omega,by omega,e1,q2⟩
theorem TwoB.swap{w wx:World}{g h:Nat}{L R:Array Value}(H:TwoB w g h L R wx):TwoB w h g R L wx:=⟨H.1,H.2.2.1,H.2.1,Ne.symm H.2.2.2.1,H.2.2.2.2.2,H.2.2.2.2.1⟩
theorem twoB(w:World)(L R:Array Value):TwoB w (w.heap.size+1) w.heap.size L R (((w.alloc (.cells R 51)).alloc (.cells L 51)).drew):=(twoA w R L).swap
theorem rChain_any(q:Nat->Prop)(F A0:Option Addr)(nf0 c0:Nat)(fs:List Fact)(ks:List Int)(t r:Raw)(vt vr:Value)(l:List Link)(A:Option Addr)(c:Nat)(w:World)
  (hfn:fs.length<=1000000) (hks:ks.length<=1000000) (hln:l.length<=1000000) (hfs:∀f∈fs,f.l.size<=1000000/\f.r.size<=1000000) (hls:∀x∈l,x.term.size<=1000000/\x.path.length<=1000000)
  (hF:FactsP (fun _=>True) w F fs) (hA0:IntsO w A0 ks) (hst:t.size<=1000000) (hsr:r.size<=1000000) (hv:TreeV w t vt) (hvr:TreeV w r vr) (hl:LinksP q w A l) :
  Calls Tryz.prog 69 #[.slice F fs.length nf0,vt,vr,.slice A l.length c,.slice A0 ks.length c0] w (ChAns (folS ks fs t r l) w):=by
 have HV:=zH hv;have HVR:=zH hvr;obtain⟨At,ct,kd,nm,ps,xs,hT,rfl⟩:∃A c kd nm ps xs,t=.node kd nm ps xs/\vt=.agg (zT kd nm ps A xs c):=by
  obtain⟨kd,nm,ps,ts⟩:=t;obtain⟨A,c,rfl,hc,hA⟩:=hv.open_;exact⟨A,c,kd,nm,ps,ts,rfl,rfl⟩
 obtain⟨Ar,cr',kd',nm',ps',ys,hU,rfl⟩:∃A c kd nm ps xs,r=.node kd nm ps xs/\vr=.agg (zT kd nm ps A xs c):=by
  obtain⟨kd,nm,ps,ts⟩:=r;obtain⟨A,c,rfl,hc,hA⟩:=hvr.open_;exact⟨A,c,kd,nm,ps,ts,rfl,rfl⟩
 obtain⟨w1,hw1⟩:∃w1,w.alloc (.cells (zT kd nm ps At xs ct) 51)=w1:=⟨_,rfl⟩;obtain⟨w2,hw2⟩:∃w2,w1.alloc (.cells (zT kd' nm' ps' Ar ys cr') 51)=w2:=⟨_,rfl⟩;have b1:=zG hw1;have b2:=zG hw2;have q1:=zQ hw1;have q2:=zQ hw2;have l1:=zL q1;have l2:=zL q2;obtain⟨cs,hcs⟩:∃cs,((zT kd' nm' ps' Ar ys cr'):Array Value)=cs:=⟨_,rfl⟩;have I0:Hid (FoI w w1.heap.size cs ks fs t l 0 1 w2):=zH ⟨t,kd,nm,ps,xs,At,ct,rfl,hT,hst,HV.o,b1.trans (b2.mono (by omega)),(b2.block _ l1).trans q1,by rw[<-hcs];exact q2⟩;have HCS:=zH hcs;have HL:=zH hl;have HLS:=zH hls;have HFS:=zH hfs;have HFX:=zH hF;have HA0:=zH hA0;have L1:=zH l1;obtain⟨N,hN⟩:∃N,l.length=N:=⟨_,rfl⟩;rw[hN] at hln ⊢;have HN:=zH hN;clear hv hvr hl hls hfs hF hA0 b1 b2 q1 q2 l1 l2 hcs hN hT hU;go_enter Tryz.func69,Tryz.ntmps69;go_wp2_with fail;go_loopw [12,13] (fun s i wr=>∃(k:Nat)(z:Int)(sb:Bool),k<=N/\s=.bool sb/\i=zI (k:Int)/\Hid (FoI w w1.heap.size cs ks fs t l k z wr/\sb=decide (z=2))) (fun _ i _=>N-(intOf i).toNat);case atStart=>exact⟨0,1,false,by omega,rfl,rfl,zH ⟨I0.o,by decide⟩⟩
 clear I0 hw1 hw2;obtain⟨k,z,sb,hk,rfl,rfl,HI⟩:=hrel;obtain⟨⟨x,kx,nx,px,xv,Ax,cx,hfol,hx,hsx,hvx,hbw,hq1,hq2⟩,hsb⟩:=HI.o;have HSB:=zH hsb;have HZ12:=zH (fol_12 _ _ _ _ _ (.inl rfl) hfol);clear hsb;have lz:=L1.o;have l1:=zL hq1;have l2:=zL hq2;have HVX:=zH hvx;have HSX:=zH hsx;have HBW:=zH hbw;have HFOL:=zH hfol;by_cases hlt:k<N
 ·have hlt2:k<l.length:=by rw[HN.o];exact hlt
  obtain⟨b,o,rfl,hb,_,hall⟩:=HL.o (by intro h;rw[h] at hlt2;cases hlt2);obtain⟨ku,nu,pu,zs,Au,cu,Ap,cp,he,d0,d1,d2,d3,d4,d5,d6,hcp,hip,htv⟩:=hall k hlt2;obtain⟨hsz,hpl⟩:=HLS.o _ (Ze hlt2);have HNO:Hid (lstep ks fs x l[k]=none->folS ks fs t r l=0):=zH (folS_no hlt2 hfol);have HST:Hid (∀(y:Raw)(bb:Bool),lstep ks fs x l[k]=some (y,bb)->∀(ky py:Int)(ny:List UInt8)(ys':List Raw)(Ay:Option Addr)(cy:Nat)(wz:World),y=.node ky ny py ys'->y.size<=1000000->TreeV w y (.agg (zT ky ny py Ay ys' cy))->zb w wz->zk wz w.heap.size (zT ky ny py Ay ys' cy) 51->wz.heap[w1.heap.size]?=some (.cells cs 51 (0,0))->FoI w w1.heap.size cs ks fs t l (k+1) (if bb then 2 else z) wz):=zH (fun y bb h1 ky py ny ys' Ay cy wz h2 h3 h4 h5 h6 h7=>FoI.step hlt2 hfol h1 h2 h3 h4 h5 h6 h7);generalize l[k]=y at *;obtain⟨yk,yt,yp,yf⟩:=y;simp only at he d0 d5 d6 hcp hip htv hsz hpl;have HE:=zH he;have HSZ:=zH hsz;have HPL:=zH hpl;have f0:=(hbw.cell (p:=⟨b,o+k*7,none⟩) hb).trans d0;have f1:=(hbw.cell (p:=⟨b,o+k*7+1,none⟩) hb).trans d1;have f2:=(hbw.cell (p:=⟨b,o+k*7+2,none⟩) hb).trans d2;have f3:=(hbw.cell (p:=⟨b,o+k*7+3,none⟩) hb).trans d3;have f4:=(hbw.cell (p:=⟨b,o+k*7+4,none⟩) hb).trans d4;have f5:=(hbw.cell (p:=⟨b,o+k*7+5,none⟩) hb).trans d5;have f6:=(hbw.cell (p:=⟨b,o+k*7+6,none⟩) hb).trans d6;have HTV:=zH htv.toV;have HIP:=zH hip.toO;have hi0:=zP k;have hi1:(k:Int)<(N:Int):=by omega
  obtain⟨w3,hw3⟩:∃w3,wr.alloc (.cells #[zI yk,zI ku,S nu,zI pu,.slice Au zs.length cu,.slice Ap yp.length cp,zI yf] 93)=w3:=⟨_,rfl⟩;have b3:=zG hw3;have q3:=zQ hw3;have l3:=zL q3;have B03:Hid (zb w w3):=zH (hbw.trans (b3.mono hbw.size));have s03:w.heap.size<=w3.heap.size:=B03.o.size;have Q1:Hid (zk w3 w.heap.size (zT kx nx px Ax xv cx) 51):=zH ((b3.block _ l1).trans hq1);have Q2:Hid (w3.heap[w1.heap.size]?=some (.cells cs 51 (0,0))):=zH ((b3.block _ l2).trans hq2);have Q3:=zH q3;have SC:Hid (∀W,zb w3 W->(zc W w.heap.size 0 (zI kx)/\zc W w.heap.size 1 (S nx)/\zc W w.heap.size 2 (zI px)/\zc W w.heap.size 3 (.slice Ax xv.length cx))/\(zc W wr.heap.size 0 (zI yk)/\zc W wr.heap.size 1 (zI ku)/\zc W wr.heap.size 2 (S nu)/\zc W wr.heap.size 3 (zI pu)/\zc W wr.heap.size 4 (.slice Au zs.length cu)/\zc W wr.heap.size 5 (.slice Ap yp.length cp)/\zc W wr.heap.size 6 (zI yf))):=zH (fun W hW=>by
   have e:=(hW.block _ l3).trans Q3.o;exact⟨cells4t ((hW.block _ (by omega)).trans Q1.o),zC e 0,zC e 1,zC e 2,zC e 3,zC e 4,zC e 5,zC e 6⟩)
  have CF:Hid (∀W,zb w3 W->Calls Tryz.prog 98 #[.agg (zT kx nx px Ax xv cx),.agg (zT ku nu pu Au zs cu),.slice Ap yp.length cp,.slice A0 ks.length c0] W fun e w'=>e=.returned (.bool (Raw.fits ks x yt yp))/\zb W w'):=zH (fun W hW=>by
   have hbW:=B03.o.trans (hW.mono s03);exact rFits_any x yt _ _ yp Ap cp ks A0 c0 W HPL.o hks HSX.o HSZ.o (HIP.o.below hbW) (HA0.o.below hbW) (HVX.o.below hbW) (HTV.o.below hbW))
  have CS:Hid (∀W,zb w W->∀(y:Raw)(vy:Value),TreeV w y vy->Calls Tryz.prog 22 #[.agg (zT kx nx px Ax xv cx),vy] W fun e w'=>e=.returned (.bool (Raw.tsm x y))/\zb W w'):=zH (fun W hW y vy hy=>sSame_upto _ (zR HSX.o (by decide)) x y _ _ W (zN _) (HVX.o.below hW) (hy.below hW));have HF:Hid (∀m,m<fs.length->∃b o,F=some ⟨b,o,none⟩/\b<w.heap.size/\FactO (fun _=>True) w b (o+m*9) (fs.getD m noFact)/\((fs.getD m noFact).l.size<=1000000/\(fs.getD m noFact).r.size<=1000000)):=zH (fun m hm=>by
   obtain⟨b,o,hF,hlt,_,hf⟩:=HFX.o (by intro h;rw[h] at hm;cases hm);have e:fs.getD m noFact=fs[m]:=(by rw[List.getD_eq_getElem?_getD,Zg hm,Option.getD_some]);rw[e];exact⟨b,o,hF,hlt,hf m hm,HFS.o _ (Ze hm)⟩)
  have HW3:=zH hw3;clear he hsz hpl d0 d1 d2 d3 d4 d5 d6 hcp hip htv hall hb hfol hx hsx hvx hbw hq1 hq2 b3 q3 hw3 HI hlt2;go_upto_region 6 with fail;rw[HW3.o];clear HW3 f0 f1 f2 f3 f4 f5 f6;by_cases hk1:yk=1
  ·subst hk1
   as_aux_lemma =>
    obtain⟨⟨y0,y1,y2,y3⟩,⟨z0,z1,z2,z3,z4,z5,z6⟩⟩:=SC.o _ (zB _ _);by_cases hf0:yf=0
    ·subst hf0;obtain⟨g,hg⟩:∃g,Raw.fits ks x yt yp=g:=⟨_,rfl⟩;have CF4:=zH (CF.o _ (zB _ _));rw[hg] at CF4;have HG:=zH hg;clear hg;go_wp2_with fail;refine CF4.o.mono ?_;rintro e w5⟨rfl,b5⟩;clear y0 y1 y2 y3 z0 z1 z2 z3 z4 z5 z6;obtain⟨⟨y0,y1,y2,y3⟩,⟨z0,z1,z2,z3,z4,z5,z6⟩⟩:=SC.o _ b5;clear CF4;cases g with
     |true =>
      by_cases hq:0<yp.length
      ·have hd1:decide ((yp.length:Int)>0)=true:=Zt (by omega);have hd2:decide ((0:Int)<(yp.length:Int))=true:=Zt (by omega);have hd3:decide (yp.length>0)=true:=Zt (by omega);have hd4:decide (0<yp.length)=true:=Zt (by omega);obtain⟨s1,s2,s3,s4,k1,k2,k3,k4,⟨r0,r1,r2,r3⟩,⟨u0,u1,u2,u3⟩,hq4',ho⟩:=put4 ((b5.block _ (by omega)).trans Q1.o) (zI ku) (S nu) (zI pu) (.slice Au zs.length cu);have HN2:Hid (FoI w w1.heap.size cs ks fs t l (k+1) (if decide (0<yp.length) then 2 else z) s4):=zH (HST.o _ _ (lstep_up ⟨rfl,HG.o⟩) _ _ _ _ _ _ _ HE.o HSZ.o HTV.o (Oth.below (B03.o.trans (b5.mono s03)) ho (zN _) (zR s03 b5.size)) hq4' (ho.heap ((b5.block _ (by omega)).trans Q2.o) (by omega)));clear hq4' ho;have HN3:Hid (FoI w w1.heap.size cs ks fs t l (k+1) 2 s4/\true=decide ((2:Int)=2)):=zH ⟨by have h:=HN2.o;rwa[hd4,if_pos rfl] at h,by decide⟩;clear HN2;cases sb with
       |true =>
        go_wp2_with fail;go_roundw;case rel=>exact⟨k+1,2,true,by omega,rfl,by go_num,zH HN3.o⟩
        case measure=>simp[intOf];omega
       |false =>
        go_wp2_with fail;go_roundw;case rel=>exact⟨k+1,2,true,by omega,rfl,by go_num,zH HN3.o⟩
        case measure=>simp[intOf];omega
      have hd1:decide ((yp.length:Int)>0)=false:=Zu (by omega);have hd2:decide ((0:Int)<(yp.length:Int))=false:=Zu (by omega);have hd3:decide (yp.length>0)=false:=Zu (by omega);have hd4:decide (0<yp.length)=false:=Zu (by omega);obtain⟨s1,s2,s3,s4,k1,k2,k3,k4,⟨r0,r1,r2,r3⟩,⟨u0,u1,u2,u3⟩,hq4',ho⟩:=put4 ((b5.block _ (by omega)).trans Q1.o) (zI ku) (S nu) (zI pu) (.slice Au zs.length cu);have HN2:Hid (FoI w w1.heap.size cs ks fs t l (k+1) (if decide (0<yp.length) then 2 else z) s4):=zH (HST.o _ _ (lstep_up ⟨rfl,HG.o⟩) _ _ _ _ _ _ _ HE.o HSZ.o HTV.o (Oth.below (B03.o.trans (b5.mono s03)) ho (zN _) (zR s03 b5.size)) hq4' (ho.heap ((b5.block _ (by omega)).trans Q2.o) (by omega)));clear hq4' ho;have HN3:Hid (FoI w w1.heap.size cs ks fs t l (k+1) z s4/\sb=decide (z=2)):=zH ⟨by have h:=HN2.o;rwa[hd4,if_neg (by decide)] at h,HSB.o⟩;clear HN2 HSB;cases sb with
      |true =>
       go_wp2_with fail;go_roundw;case rel=>exact⟨k+1,z,true,by omega,rfl,by go_num,zH HN3.o⟩
       case measure=>simp[intOf];omega
      |false =>
       go_wp2_with fail;go_roundw;case rel=>exact⟨k+1,z,false,by omega,rfl,by go_num,zH HN3.o⟩
       case measure=>simp[intOf];omega
     |false =>
      have HZ:Hid (folS ks fs t r l=0):=zH (HNO.o (lstep_up_no (fun h=>by have:=h.2;rw[HG.o] at this;cases this)));have HY:=zH (B03.o.trans (b5.mono s03));go_wp2_with fail;refine Zb (results_tmp2 rfl _ _ _) ?_;exact chAns_no HZ.o HY.o
    have n1:(yf == 0)=false:=(by simpa using hf0);have n2:decide (yf=0)=false:=(by simpa using hf0);have n3:(yf != 0)=true:=(by simpa using hf0);have HZ:Hid (folS ks fs t r l=0):=zH (HNO.o (lstep_up_no (fun h=>hf0 h.1)));have HY:=zH (B03.o.trans ((zB _ _).mono s03));go_wp2_with fail;refine Zb (results_tmp2 rfl _ _ _) ?_;exact chAns_no HZ.o HY.o
  by_cases hk2:yk=2
  ·subst hk2
   as_aux_lemma =>
    obtain⟨⟨y0,y1,y2,y3⟩,⟨z0,z1,z2,z3,z4,z5,z6⟩⟩:=SC.o _ (zB _ _);go_upto_region 15 with fail;obtain⟨bn,hn1⟩:∃b,decide (yf<0)=b:=⟨_,rfl⟩;obtain⟨bg,hg1⟩:∃b,decide ((fs.length:Int)<=yf)=b:=⟨_,rfl⟩;have hg2:decide (yf≥(fs.length:Int))=bg:=hg1;obtain⟨e1,g1,g1',g1''⟩:=intCaseV ku 0;obtain⟨e2,g2,g2',g2''⟩:=emptyCase nu;have g2n:(nu != [])=(!e2):=(by rw[<-g2];rfl);obtain⟨e3,g3,g3',g3''⟩:=intCaseV pu 0;obtain⟨e4,g4,g4a,g4b,g4c,g4d,g4e⟩:=gtCaseV zs.length;obtain⟨e5,g5,g5a,g5b,g5c,g5d,g5e⟩:=gtCaseV yp.length;have HNUL:=zH (nul_bits HE.o g1' g2' g3' g4);have HB:Hid ((((((((bn || bg) || !e5) || !e1) || !e2) || !e3) || !e4)=false->(yt.nul=true/\yp.length=0)/\0<=yf/\yf<(fs.length:Int))/\(((((((bn || bg) || !e5) || !e1) || !e2) || !e3) || !e4)=true->¬((yt.nul=true/\yp.length=0)/\(0<=yf/\yf<(fs.length:Int))))):=zH (by
     rw[HNUL.o];have hn:bn=true↔yf<0:=(by rw[<-hn1,Zd]);have hg:bg=true↔(fs.length:Int)<=yf:=(by rw[<-hg1,Zd]);have h5:e5=true↔yp.length=0:=(by rw[<-g5,Zd]);clear g1 g1' g1'' g2 g2' g2'' g2n g3 g3' g3'' g4 g4a g4b g4c g4d g4e g5 g5a g5b g5c g5d g5e hn1 hg1 hg2;constructor
     ·intro h;simp only[Bool.or_eq_false_iff,Bool.not_eq_false'] at h;obtain⟨⟨⟨⟨⟨⟨h1,h2⟩,h3⟩,h4⟩,h6⟩,h7⟩,h8⟩:=h;refine⟨⟨by rw[h4,h6,h7,h8];rfl,h5.1 h3⟩,?_,?_⟩
      ·have:¬yf<0:=fun hh=>(by rw[hn.2 hh] at h1;cases h1);omega
      have:¬(fs.length:Int)<=yf:=fun hh=>(by rw[hg.2 hh] at h2;cases h2);omega
     rintro h⟨⟨h1,h2⟩,h3,h4⟩;simp only[Za] at h1;obtain⟨⟨⟨i1,i2⟩,i3⟩,i4⟩:=h1;have j1:bn=false:=(by cases hb:bn with | false=>rfl | true=>have:=hn.1 hb;omega);have j2:bg=false:=(by cases hb:bg with | false=>rfl | true=>have:=hg.1 hb;omega);rw[i1,i2,i3,i4,h5.2 h2,j1,j2] at h;cases h)
    go_cut [97] (fun e wx=>e=.bool ((((((bn || bg) || !e5) || !e1) || !e2) || !e3) || !e4)/\wx=w3);case first =>
     cases bn with
     |true=>(go_wp2_with fail;go_meet;exact⟨rfl,rfl⟩)
     |false =>
      cases bg with
      |true=>(go_wp2_with fail;go_meet;exact⟨rfl,rfl⟩)
      |false =>
       cases e5 with
       |false=>(go_wp2_with fail;go_meet;exact⟨rfl,rfl⟩)
       |true =>
        cases e1 with
        |false=>(go_wp2_with fail;go_meet;exact⟨rfl,rfl⟩)
        |true =>
         cases e2 with
         |false=>(go_wp2_with fail;go_meet;exact⟨rfl,rfl⟩)
         |true =>
          cases e3 with
          |false=>(go_wp2_with fail;go_meet;exact⟨rfl,rfl⟩)
          |true =>
           cases e4 with
           |false=>(go_wp2_with fail;go_meet;exact⟨rfl,rfl⟩)
           |true =>
            (go_wp2_with fail;go_meet;exact⟨rfl,rfl⟩)
    obtain⟨hec,hwx⟩:=hcut;subst hec;rw[hwx];clear hwx HNUL hn1 hg1 hg2 g1 g1' g1'' g2 g2' g2'' g2n g3 g3' g3'' g4 g4a g4b g4c g4d g4e g5 g5a g5b g5c g5d g5e;obtain⟨E,hE⟩:∃E,((((((bn || bg) || !e5) || !e1) || !e2) || !e3) || !e4)=E:=⟨_,rfl⟩;rw[hE] at HB ⊢;clear hE;cases E with
    |true =>
     have HZ:Hid (folS ks fs t r l=0):=zH (HNO.o (lstep_to_no (fun h=>HB.o.2 rfl ⟨h.1,h.2.1⟩)));have HY:=zH (B03.o.trans ((zB _ _).mono s03));go_wp2_with fail;refine Zb (results_tmp2 rfl _ _ _) ?_;exact chAns_no HZ.o HY.o
    |false =>
     have HGD:=zH (HB.o.1 rfl);clear HB;obtain⟨m,hm0⟩:∃m:Nat,yf=(m:Int):=⟨yf.toNat,by have:=HGD.o;omega⟩;subst hm0;have hm:m<fs.length:=(by have:=HGD.o.2.2;omega);have n4:=zP m;have n5:(m:Int)<(fs.length:Int):=(by omega);obtain⟨bf,fo,rfl,hbf,⟨kl,nl,pl,tl,Al,cl',kr,nr,pr,tr,Ar',cr2,el,er,⟨c0',c1',c2',c3'⟩,c4',⟨c5',c6',c7',c8'⟩,vl,vr'⟩,hsl,hsr'⟩:=HF.o m hm;obtain⟨ff,hfm⟩:∃ff,fs.getD m noFact=ff:=⟨_,rfl⟩;rw[hfm] at el er c4' vl vr' hsl hsr';obtain⟨fl,frel,fr⟩:=ff;simp only at el er c4' vl vr' hsl hsr';have HEL:=zH el;have HER:=zH er;have HVL:=zH vl.toV;have HVR':=zH vr'.toV;have HSL:=zH hsl;have HSR:=zH hsr';have HFM:=zH hfm;clear el er vl vr' hsl hsr' hfm;have hbf3:=B03.o;have a0:=(hbf3.cell (p:=⟨bf,fo+m*9,none⟩) hbf).trans c0';have a1:=(hbf3.cell (p:=⟨bf,fo+m*9+1,none⟩) hbf).trans c1';have a2:=(hbf3.cell (p:=⟨bf,fo+m*9+2,none⟩) hbf).trans c2';have a3:=(hbf3.cell (p:=⟨bf,fo+m*9+3,none⟩) hbf).trans c3';have a4:=(hbf3.cell (p:=⟨bf,fo+m*9+4,none⟩) hbf).trans c4';have a5:=(hbf3.cell (p:=⟨bf,fo+m*9+5,none⟩) hbf).trans c5';have a6:=(hbf3.cell (p:=⟨bf,fo+m*9+6,none⟩) hbf).trans c6';have a7:=(hbf3.cell (p:=⟨bf,fo+m*9+7,none⟩) hbf).trans c7';have a8:=(hbf3.cell (p:=⟨bf,fo+m*9+8,none⟩) hbf).trans c8';clear hbf3 c0' c1' c2' c3' c4' c5' c6' c7' c8';obtain⟨w4,hw4⟩:∃w4,w3.alloc (.cells #[zI kl,S nl,zI pl,.slice Al tl.length cl',zI frel,zI kr,S nr,zI pr,.slice Ar' tr.length cr2] 70)=w4:=⟨_,rfl⟩;have b4:=zG hw4;have q4:=zQ hw4;have l4:=zL q4;have B4:=zH b4;have HW4:=zH hw4;have FC:Hid (∀W,zb w4 W->zc W w3.heap.size 0 (zI kl)/\zc W w3.heap.size 1 (S nl)/\zc W w3.heap.size 2 (zI pl)/\zc W w3.heap.size 3 (.slice Al tl.length cl')/\zc W w3.heap.size 4 (zI frel)/\zc W w3.heap.size 5 (zI kr)/\zc W w3.heap.size 6 (S nr)/\zc W w3.heap.size 7 (zI pr)/\zc W w3.heap.size 8 (.slice Ar' tr.length cr2)):=zH (fun W hW=>by
      have e:=(hW.block _ l4).trans q4;exact⟨zC e 0,zC e 1,zC e 2,zC e 3,zC e 4,zC e 5,zC e 6,zC e 7,zC e 8⟩)
     clear hw4 b4 q4;go_upto_region 18 with fail;rw[HW4.o];clear HW4 a0 a1 a2 a3 a4 a5 a6 a7 a8;obtain⟨a0,a1,a2,a3,a4,a5,a6,a7,a8⟩:=FC.o _ (zB _ _);clear y0 y1 y2 y3 z0 z1 z2 z3 z4 z5 z6;go_cut [16,17] (fun p v wx=>∃g h,p=.pointer (some ⟨g,0,none⟩)/\v=.pointer (some ⟨h,0,none⟩)/\Hid (TwoB w4 g h (zT kl nl pl Al tl cl') (zT kr nr pr Ar' tr cr2) wx));case first =>
      go_big_region
      all_goals (try go_wp2_with fail)
      all_goals (try go_meet)
      ·exact⟨_,_,rfl,rfl,zH (twoA _ _ _)⟩
      exact⟨_,_,rfl,rfl,zH (twoB _ _ _)⟩
     obtain⟨gb,hb',rfl,rfl,HTB⟩:=hcut;obtain⟨bx,sg,sh,ngh,qg,qh⟩:=HTB.o;clear HTB a0 a1 a2 a3 a4 a5 a6 a7 a8;have b5:zb w3 wc:=B4.o.trans (bx.mono B4.o.size);have s45:=B4.o.size;obtain⟨⟨y0,y1,y2,y3⟩,⟨z0,z1,z2,z3,z4,z5,z6⟩⟩:=SC.o _ b5;obtain⟨a0,a1,a2,a3,a4,a5,a6,a7,a8⟩:=FC.o _ bx;have lg:=zL qg;have lh:=zL qh;have QG:=zH qg;have QH:=zH qh;have BX:=zH bx;obtain⟨g0,g1,g2,g3⟩:=cells4v qg;obtain⟨h0,h1,h2,h3⟩:=cells4v qh;clear qg qh bx;obtain⟨g,hg⟩:∃g,Raw.tsm x fl=g:=⟨_,rfl⟩;have CS4:=zH (CS.o wc (B03.o.trans (b5.mono s03)) _ _ HVL.o);rw[hg] at CS4;have HG:=zH hg;clear hg;go_wp2_with fail;refine CS4.o.mono ?_;rintro e w7⟨rfl,b7'⟩;have b7:zb w3 w7:=b5.trans (b7'.mono b5.size);cases g with
     |true =>
      clear y0 y1 y2 y3 z0 z1 z2 z3 z4 z5 z6 g0 g1 g2 g3 h0 h1 h2 h3 a0 a1 a2 a3 a4 a5 a6 a7 a8 CS4;obtain⟨⟨y0,y1,y2,y3⟩,⟨z0,z1,z2,z3,z4,z5,z6⟩⟩:=SC.o _ b7;obtain⟨h0,h1,h2,h3⟩:=cells4v ((b7'.block _ lh).trans QH.o);obtain⟨a0,a1,a2,a3,a4,a5,a6,a7,a8⟩:=FC.o _ (BX.o.trans (b7'.mono BX.o.size));clear b7';by_cases hr:frel=1
      ·have n7:(frel == 1)=true:=(by simpa using hr);have n8:decide (frel=1)=true:=(by simpa using hr);obtain⟨s1,s2,s3,s4,k1,k2,k3,k4,⟨r0,r1,r2,r3⟩,⟨u0,u1,u2,u3⟩,hq4',ho⟩:=put4 ((b7.block _ (by omega)).trans Q1.o) (zI kr) (S nr) (zI pr) (.slice Ar' tr.length cr2);have HN2:Hid (FoI w w1.heap.size cs ks fs t l (k+1) (if decide (frel=1) then 2 else z) s4):=zH (HST.o _ _ (lstep_to HFM.o ⟨HGD.o.1,hm,HG.o⟩) _ _ _ _ _ _ _ HER.o HSR.o HVR'.o (Oth.below (B03.o.trans (b7.mono s03)) ho (zN _) (zR s03 b7.size)) hq4' (ho.heap ((b7.block _ (by omega)).trans Q2.o) (by omega)));clear hq4' ho;have HN3:Hid (FoI w w1.heap.size cs ks fs t l (k+1) 2 s4/\true=decide ((2:Int)=2)):=zH ⟨by have h:=HN2.o;rwa[n8,if_pos rfl] at h,by decide⟩;clear HN2;cases sb with
       |true =>
        go_wp2_with fail;go_roundw;case rel=>exact⟨k+1,2,true,by omega,rfl,by go_num,zH HN3.o⟩
        case measure=>simp[intOf];omega
       |false =>
        go_wp2_with fail;go_roundw;case rel=>exact⟨k+1,2,true,by omega,rfl,by go_num,zH HN3.o⟩
        case measure=>simp[intOf];omega
      have n7:(frel == 1)=false:=(by simpa using hr);have n8:decide (frel=1)=false:=(by simpa using hr);obtain⟨s1,s2,s3,s4,k1,k2,k3,k4,⟨r0,r1,r2,r3⟩,⟨u0,u1,u2,u3⟩,hq4',ho⟩:=put4 ((b7.block _ (by omega)).trans Q1.o) (zI kr) (S nr) (zI pr) (.slice Ar' tr.length cr2);have HN2:Hid (FoI w w1.heap.size cs ks fs t l (k+1) (if decide (frel=1) then 2 else z) s4):=zH (HST.o _ _ (lstep_to HFM.o ⟨HGD.o.1,hm,HG.o⟩) _ _ _ _ _ _ _ HER.o HSR.o HVR'.o (Oth.below (B03.o.trans (b7.mono s03)) ho (zN _) (zR s03 b7.size)) hq4' (ho.heap ((b7.block _ (by omega)).trans Q2.o) (by omega)));clear hq4' ho;have HN3:Hid (FoI w w1.heap.size cs ks fs t l (k+1) z s4/\sb=decide (z=2)):=zH ⟨by have h:=HN2.o;rwa[n8,if_neg (by decide)] at h,HSB.o⟩;clear HN2 HSB;cases sb with
      |true =>
       go_wp2_with fail;go_roundw;case rel=>exact⟨k+1,z,true,by omega,rfl,by go_num,zH HN3.o⟩
       case measure=>simp[intOf];omega
      |false =>
       go_wp2_with fail;go_roundw;case rel=>exact⟨k+1,z,false,by omega,rfl,by go_num,zH HN3.o⟩
       case measure=>simp[intOf];omega
     |false =>
      clear b7' CS4;have HZ:Hid (folS ks fs t r l=0):=zH (HNO.o (lstep_to_no (fun h=>by have:=h.2.2;rw[Int.toNat_natCast,HFM.o] at this;exact absurd (HG.o.symm.trans this) (by decide))));have HY:=zH (B03.o.trans (b7.mono s03));go_wp2_with fail;refine Zb (results_tmp2 rfl _ _ _) ?_;exact chAns_no HZ.o HY.o
  by_cases hk3:yk=3
  ·subst hk3
   as_aux_lemma =>
    obtain⟨⟨y0,y1,y2,y3⟩,⟨z0,z1,z2,z3,z4,z5,z6⟩⟩:=SC.o _ (zB _ _);go_upto_region 15 with fail;obtain⟨bn,hn1⟩:∃b,decide (yf<0)=b:=⟨_,rfl⟩;obtain⟨bg,hg1⟩:∃b,decide ((fs.length:Int)<=yf)=b:=⟨_,rfl⟩;have hg2:decide (yf≥(fs.length:Int))=bg:=hg1;obtain⟨e1,g1,g1',g1''⟩:=intCaseV ku 0;obtain⟨e2,g2,g2',g2''⟩:=emptyCase nu;have g2n:(nu != [])=(!e2):=(by rw[<-g2];rfl);obtain⟨e3,g3,g3',g3''⟩:=intCaseV pu 0;obtain⟨e4,g4,g4a,g4b,g4c,g4d,g4e⟩:=gtCaseV zs.length;obtain⟨e5,g5,g5a,g5b,g5c,g5d,g5e⟩:=gtCaseV yp.length;have HNUL:=zH (nul_bits HE.o g1' g2' g3' g4);have HB:Hid ((((((((bn || bg) || !e5) || !e1) || !e2) || !e3) || !e4)=false->(yt.nul=true/\yp.length=0)/\0<=yf/\yf<(fs.length:Int))/\(((((((bn || bg) || !e5) || !e1) || !e2) || !e3) || !e4)=true->¬((yt.nul=true/\yp.length=0)/\(0<=yf/\yf<(fs.length:Int))))):=zH (by
     rw[HNUL.o];have hn:bn=true↔yf<0:=(by rw[<-hn1,Zd]);have hg:bg=true↔(fs.length:Int)<=yf:=(by rw[<-hg1,Zd]);have h5:e5=true↔yp.length=0:=(by rw[<-g5,Zd]);clear g1 g1' g1'' g2 g2' g2'' g2n g3 g3' g3'' g4 g4a g4b g4c g4d g4e g5 g5a g5b g5c g5d g5e hn1 hg1 hg2;constructor
     ·intro h;simp only[Bool.or_eq_false_iff,Bool.not_eq_false'] at h;obtain⟨⟨⟨⟨⟨⟨h1,h2⟩,h3⟩,h4⟩,h6⟩,h7⟩,h8⟩:=h;refine⟨⟨by rw[h4,h6,h7,h8];rfl,h5.1 h3⟩,?_,?_⟩
      ·have:¬yf<0:=fun hh=>(by rw[hn.2 hh] at h1;cases h1);omega
      have:¬(fs.length:Int)<=yf:=fun hh=>(by rw[hg.2 hh] at h2;cases h2);omega
     rintro h⟨⟨h1,h2⟩,h3,h4⟩;simp only[Za] at h1;obtain⟨⟨⟨i1,i2⟩,i3⟩,i4⟩:=h1;have j1:bn=false:=(by cases hb:bn with | false=>rfl | true=>have:=hn.1 hb;omega);have j2:bg=false:=(by cases hb:bg with | false=>rfl | true=>have:=hg.1 hb;omega);rw[i1,i2,i3,i4,h5.2 h2,j1,j2] at h;cases h)
    go_cut [97] (fun e wx=>e=.bool ((((((bn || bg) || !e5) || !e1) || !e2) || !e3) || !e4)/\wx=w3);case first =>
     cases bn with
     |true=>(go_wp2_with fail;go_meet;exact⟨rfl,rfl⟩)
     |false =>
      cases bg with
      |true=>(go_wp2_with fail;go_meet;exact⟨rfl,rfl⟩)
      |false =>
       cases e5 with
       |false=>(go_wp2_with fail;go_meet;exact⟨rfl,rfl⟩)
       |true =>
        cases e1 with
        |false=>(go_wp2_with fail;go_meet;exact⟨rfl,rfl⟩)
        |true =>
         cases e2 with
         |false=>(go_wp2_with fail;go_meet;exact⟨rfl,rfl⟩)
         |true =>
          cases e3 with
          |false=>(go_wp2_with fail;go_meet;exact⟨rfl,rfl⟩)
          |true =>
           cases e4 with
           |false=>(go_wp2_with fail;go_meet;exact⟨rfl,rfl⟩)
           |true =>
            (go_wp2_with fail;go_meet;exact⟨rfl,rfl⟩)
    obtain⟨hec,hwx⟩:=hcut;subst hec;rw[hwx];clear hwx HNUL hn1 hg1 hg2 g1 g1' g1'' g2 g2' g2'' g2n g3 g3' g3'' g4 g4a g4b g4c g4d g4e g5 g5a g5b g5c g5d g5e;obtain⟨E,hE⟩:∃E,((((((bn || bg) || !e5) || !e1) || !e2) || !e3) || !e4)=E:=⟨_,rfl⟩;rw[hE] at HB ⊢;clear hE;cases E with
    |true =>
     have HZ:Hid (folS ks fs t r l=0):=zH (HNO.o (lstep_bk_no (fun h=>HB.o.2 rfl ⟨h.1,h.2.1⟩)));have HY:=zH (B03.o.trans ((zB _ _).mono s03));go_wp2_with fail;refine Zb (results_tmp2 rfl _ _ _) ?_;exact chAns_no HZ.o HY.o
    |false =>
     have HGD:=zH (HB.o.1 rfl);clear HB;obtain⟨m,hm0⟩:∃m:Nat,yf=(m:Int):=⟨yf.toNat,by have:=HGD.o;omega⟩;subst hm0;have hm:m<fs.length:=(by have:=HGD.o.2.2;omega);have n4:=zP m;have n5:(m:Int)<(fs.length:Int):=(by omega);obtain⟨bf,fo,rfl,hbf,⟨kl,nl,pl,tl,Al,cl',kr,nr,pr,tr,Ar',cr2,el,er,⟨c0',c1',c2',c3'⟩,c4',⟨c5',c6',c7',c8'⟩,vl,vr'⟩,hsl,hsr'⟩:=HF.o m hm;obtain⟨ff,hfm⟩:∃ff,fs.getD m noFact=ff:=⟨_,rfl⟩;rw[hfm] at el er c4' vl vr' hsl hsr';obtain⟨fl,frel,fr⟩:=ff;simp only at el er c4' vl vr' hsl hsr';have HEL:=zH el;have HER:=zH er;have HVL:=zH vl.toV;have HVR':=zH vr'.toV;have HSL:=zH hsl;have HSR:=zH hsr';have HFM:=zH hfm;clear el er vl vr' hsl hsr' hfm;have hbf3:=B03.o;have a0:=(hbf3.cell (p:=⟨bf,fo+m*9,none⟩) hbf).trans c0';have a1:=(hbf3.cell (p:=⟨bf,fo+m*9+1,none⟩) hbf).trans c1';have a2:=(hbf3.cell (p:=⟨bf,fo+m*9+2,none⟩) hbf).trans c2';have a3:=(hbf3.cell (p:=⟨bf,fo+m*9+3,none⟩) hbf).trans c3';have a4:=(hbf3.cell (p:=⟨bf,fo+m*9+4,none⟩) hbf).trans c4';have a5:=(hbf3.cell (p:=⟨bf,fo+m*9+5,none⟩) hbf).trans c5';have a6:=(hbf3.cell (p:=⟨bf,fo+m*9+6,none⟩) hbf).trans c6';have a7:=(hbf3.cell (p:=⟨bf,fo+m*9+7,none⟩) hbf).trans c7';have a8:=(hbf3.cell (p:=⟨bf,fo+m*9+8,none⟩) hbf).trans c8';clear hbf3 c0' c1' c2' c3' c4' c5' c6' c7' c8';obtain⟨w4,hw4⟩:∃w4,w3.alloc (.cells #[zI kl,S nl,zI pl,.slice Al tl.length cl',zI frel,zI kr,S nr,zI pr,.slice Ar' tr.length cr2] 70)=w4:=⟨_,rfl⟩;have b4:=zG hw4;have q4:=zQ hw4;have l4:=zL q4;have B4:=zH b4;have HW4:=zH hw4;have FC:Hid (∀W,zb w4 W->zc W w3.heap.size 0 (zI kl)/\zc W w3.heap.size 1 (S nl)/\zc W w3.heap.size 2 (zI pl)/\zc W w3.heap.size 3 (.slice Al tl.length cl')/\zc W w3.heap.size 4 (zI frel)/\zc W w3.heap.size 5 (zI kr)/\zc W w3.heap.size 6 (S nr)/\zc W w3.heap.size 7 (zI pr)/\zc W w3.heap.size 8 (.slice Ar' tr.length cr2)):=zH (fun W hW=>by
      have e:=(hW.block _ l4).trans q4;exact⟨zC e 0,zC e 1,zC e 2,zC e 3,zC e 4,zC e 5,zC e 6,zC e 7,zC e 8⟩)
     clear hw4 b4 q4;go_upto_region 18 with fail;rw[HW4.o];clear HW4 a0 a1 a2 a3 a4 a5 a6 a7 a8;obtain⟨a0,a1,a2,a3,a4,a5,a6,a7,a8⟩:=FC.o _ (zB _ _);clear y0 y1 y2 y3 z0 z1 z2 z3 z4 z5 z6;go_cut [16,17] (fun p v wx=>∃g h,p=.pointer (some ⟨g,0,none⟩)/\v=.pointer (some ⟨h,0,none⟩)/\Hid (TwoB w4 g h (zT kl nl pl Al tl cl') (zT kr nr pr Ar' tr cr2) wx));case first =>
      go_big_region
      all_goals (try go_wp2_with fail)
      all_goals (try go_meet)
      ·exact⟨_,_,rfl,rfl,zH (twoA _ _ _)⟩
      exact⟨_,_,rfl,rfl,zH (twoB _ _ _)⟩
     obtain⟨gb,hb',rfl,rfl,HTB⟩:=hcut;obtain⟨bx,sg,sh,ngh,qg,qh⟩:=HTB.o;clear HTB a0 a1 a2 a3 a4 a5 a6 a7 a8;have b5:zb w3 wc:=B4.o.trans (bx.mono B4.o.size);have s45:=B4.o.size;obtain⟨⟨y0,y1,y2,y3⟩,⟨z0,z1,z2,z3,z4,z5,z6⟩⟩:=SC.o _ b5;obtain⟨a0,a1,a2,a3,a4,a5,a6,a7,a8⟩:=FC.o _ bx;have lg:=zL qg;have lh:=zL qh;have QG:=zH qg;have QH:=zH qh;have BX:=zH bx;obtain⟨g0,g1,g2,g3⟩:=cells4v qg;obtain⟨h0,h1,h2,h3⟩:=cells4v qh;clear qg qh bx;obtain⟨s1,s2,s3,s4,k1,k2,k3,k4,⟨r0,r1,r2,r3⟩,⟨u0,u1,u2,u3⟩,hqa,hoa⟩:=put4 QG.o (zI kr) (S nr) (zI pr) (.slice Ar' tr.length cr2);obtain⟨s5,s6,s7,s8,k5,k6,k7,k8,⟨r4,r5,r6,r7⟩,⟨u4,u5,u6,u7⟩,hqb,hob⟩:=put4 (hoa.heap QH.o (Ne.symm ngh)) (zI kl) (S nl) (zI pl) (.slice Al tl.length cl');have QG8:=zH (hob.heap hqa ngh);have QH8:=zH hqb;have b8:zb w3 s8:=Oth.below (Oth.below b5 hoa (by omega) (by omega)) hob (by omega) (by have:=hoa.size;omega);have bx8:zb w4 s8:=Oth.below (Oth.below BX.o hoa (by omega) (by omega)) hob (by omega) (by have:=hoa.size;omega);clear hqa hoa hqb hob;go_upto_region 21 with fail;clear y0 y1 y2 y3 z0 z1 z2 z3 z4 z5 z6 a0 a1 a2 a3 a4 a5 a6 a7 a8 g0 g1 g2 g3 h0 h1 h2 h3 r0 r1 r2 r3 r4 r5 r6 r7 u0 u1 u2 u3 u4 u5 u6 u7 k1 k2 k3 k4 k5 k6 k7 k8;obtain⟨⟨y0,y1,y2,y3⟩,⟨z0,z1,z2,z3,z4,z5,z6⟩⟩:=SC.o _ b8;obtain⟨a0,a1,a2,a3,a4,a5,a6,a7,a8⟩:=FC.o _ bx8;obtain⟨g0,g1,g2,g3⟩:=cells4v QG8.o;obtain⟨h0,h1,h2,h3⟩:=cells4v QH8.o;have lg8:=zL QH8.o;by_cases hr:frel=3
     ·subst hr;obtain⟨g,hg⟩:∃g,Raw.tsm x fr=g:=⟨_,rfl⟩;have CS4:=zH (CS.o s8 (B03.o.trans (b8.mono s03)) _ _ HVR'.o);rw[hg] at CS4;have HG:=zH hg;clear hg;go_wp2_with fail;refine CS4.o.mono ?_;rintro e w7⟨rfl,b7'⟩;have b7:zb w3 w7:=b8.trans (b7'.mono b8.size);cases g with
      |true =>
       clear y0 y1 y2 y3 z0 z1 z2 z3 z4 z5 z6 g0 g1 g2 g3 h0 h1 h2 h3 a0 a1 a2 a3 a4 a5 a6 a7 a8 CS4;obtain⟨⟨y0,y1,y2,y3⟩,⟨z0,z1,z2,z3,z4,z5,z6⟩⟩:=SC.o _ b7;obtain⟨h0,h1,h2,h3⟩:=cells4v ((b7'.block _ lg8).trans QH8.o);obtain⟨a0,a1,a2,a3,a4,a5,a6,a7,a8⟩:=FC.o _ (bx8.trans (b7'.mono bx8.size));clear b7';obtain⟨s1,s2,s3,s4,k1,k2,k3,k4,⟨r0,r1,r2,r3⟩,⟨u0,u1,u2,u3⟩,hq4',ho⟩:=put4 ((b7.block _ (by omega)).trans Q1.o) (zI kl) (S nl) (zI pl) (.slice Al tl.length cl');have HN2:Hid (FoI w w1.heap.size cs ks fs t l (k+1) (if false then 2 else z) s4):=zH (HST.o _ _ (lstep_bk HFM.o ⟨HGD.o.1,hm,HG.o⟩) _ _ _ _ _ _ _ HEL.o HSL.o HVL.o (Oth.below (B03.o.trans (b7.mono s03)) ho (zN _) (zR s03 b7.size)) hq4' (ho.heap ((b7.block _ (by omega)).trans Q2.o) (by omega)));clear hq4' ho;have HN3:Hid (FoI w w1.heap.size cs ks fs t l (k+1) z s4/\sb=decide (z=2)):=zH ⟨by have h:=HN2.o;rwa[if_neg (by decide)] at h,HSB.o⟩;clear HN2 HSB;cases sb with
       |true =>
        go_wp2_with fail;go_roundw;case rel=>exact⟨k+1,z,true,by omega,rfl,by go_num,zH HN3.o⟩
        case measure=>simp[intOf];omega
       |false =>
        go_wp2_with fail;go_roundw;case rel=>exact⟨k+1,z,false,by omega,rfl,by go_num,zH HN3.o⟩
        case measure=>simp[intOf];omega
      |false =>
       clear b7' CS4;have HZ:Hid (folS ks fs t r l=0):=zH (HNO.o (lstep_bk_no (fun h=>by have:=h.2.2.2;rw[Int.toNat_natCast,HFM.o] at this;exact absurd (HG.o.symm.trans this) (by decide))));have HY:=zH (B03.o.trans (b7.mono s03));go_wp2_with fail;refine Zb (results_tmp2 rfl _ _ _) ?_;exact chAns_no HZ.o HY.o
     have n7:(frel == 3)=false:=(by simpa using hr);have n8:decide (frel=3)=false:=(by simpa using hr);have n9:(frel != 3)=true:=(by simpa using hr);have HZ:Hid (folS ks fs t r l=0):=zH (HNO.o (lstep_bk_no (fun h=>by have:=h.2.2.1;rw[Int.toNat_natCast,HFM.o] at this;exact hr this)));have HY:=zH (B03.o.trans (b8.mono s03));go_wp2_with fail;refine Zb (results_tmp2 rfl _ _ _) ?_;exact chAns_no HZ.o HY.o
  obtain⟨⟨y0,y1,y2,y3⟩,⟨z0,z1,z2,z3,z4,z5,z6⟩⟩:=SC.o _ (zB _ _);have m1:(yk == 1)=false:=by simpa using hk1
  have o1:decide (yk=1)=false:=by simpa using hk1
  have m2:(yk == 2)=false:=by simpa using hk2
  have o2:decide (yk=2)=false:=by simpa using hk2
  have m3:(yk == 3)=false:=by simpa using hk3
  have o3:decide (yk=3)=false:=by simpa using hk3
  have HZ:Hid (folS ks fs t r l=0):=zH (HNO.o (lstep_else hk1 hk2 hk3));have HY:=zH (B03.o.trans ((zB _ _).mono s03));go_wp2_with fail;refine Zb (results_tmp2 rfl _ _ _) ?_;exact chAns_no HZ.o HY.o
 have hkN:k=N:=by omega
 have HFO:Hid (folS ks fs t r l=if Raw.tsm x r=true then z else 0):=zH (by have h:=HFOL.o;rw[List.take_of_length_le (by rw[HN.o];omega)] at h;unfold folS;rw[h]);obtain⟨g,hg⟩:∃g,Raw.tsm x r=g:=⟨_,rfl⟩;have CS:Hid (Calls Tryz.prog 22 #[.agg (zT kx nx px Ax xv cx),.agg (zT kd' nm' ps' Ar ys cr')] wr fun e w'=>e=.returned (.bool g)/\zb wr w'):=zH (by rw[<-hg];exact sSame_upto _ (zR HSX.o (by decide)) x r _ _ wr (zN _) (HVX.o.below HBW.o) (HVR.o.below HBW.o));rw[hg] at HFO;rw[<-HCS.o] at hq2;obtain⟨y0,y1,y2,y3⟩:=cells4t hq1;obtain⟨z0,z1,z2,z3⟩:=cells4t hq2;have hi0:¬((k:Int)<(N:Int)):=by omega
 clear hg hfol hx hsx hvx hbw hq1 hq2 HI hkN;go_wp2_with fail;refine CS.o.mono ?_;rintro e w5⟨rfl,b5⟩;have HY:=zH (HBW.o.trans (b5.mono HBW.o.size));have HAN:Hid (ChAns (folS ks fs t r l) w (.returned (.tuple #[.bool g,.bool sb])) w5):=zH (by
  refine⟨⟨sb,?_,fun h=>?_⟩,HY.o⟩
  ·rw[HFO.o];cases g with
   |true=>rw[if_pos rfl,Zt (show z≠0 by rcases HZ12.o with h | h <;> omega)]
   |false=>rw[if_neg (by decide)];rfl
  rw[HFO.o] at h ⊢;cases g with
  |true=>rw[if_pos rfl];exact HSB.o
  |false=>exact absurd (if_neg (by decide)) h)
 clear HFO HSB b5;go_wp2_with fail;refine Zb (results_tmp2 rfl _ _ _) ?_;exact HAN.o
end Go.Proofs.YtadjpadieljjlaaGreat
