/- Parts of the proof that no input makes the law false: OvW, RowOrderVerifies. -/
import Derived.Test.YtadjpadieljjlaaGreatWvAU
import Derived.Test.YtadjpadieljjlaaGreatWvAY
import Derived.Test.YtadjpadieljjlaaGreatWvBA
import Derived.Test.YtadjpadieljjlaaGreatWvBB
set_option linter.unusedVariables false
set_option linter.unusedSimpArgs false
set_option maxRecDepth 100000
set_option maxHeartbeats 32000000
namespace Go.Proofs.YtadjpadieljjlaaGreat
open Go.RowKit Go.Maps _root_.Lfc
attribute [local go_sem ↓] Go.wp_at_zero Go.wp_at_succ
theorem okN{N N' B:Nat}(h:N≤N'):∀p:Prf,p.ok N B→p.ok N' B
 |.node ix ps ch bk,hp=>by
  rw[Prf.ok] at hp ⊢;exact⟨⟨by omega,by omega⟩,hp.2.1,oksN h ps hp.2.2⟩
where
 oksN {N N' B:Nat} (h:N≤N'):∀ps:List Prf,Prf.oks N B ps→Prf.oks N' B ps
 |[],_=>by rw[Prf.oks];trivial
 |a :: r,hp=>by
  rw[Prf.oks] at hp ⊢;exact⟨okN h a hp.1,oksN h r hp.2⟩
theorem QuP.toQ{q:Nat→Prop}{w W:World}{fs:List Fact}{F:Option Addr}{o p:Lfc.Ord}{vo vp:Value}{ts us:List Raw}{L R:Option Addr}{cl cr:Nat}{ks:List Int}{A0:Option Addr}(h:QuP q w fs F o p vo vp ts us L R cl cr ks A0)(hb:Below w.heap.size w W):QuO W fs F o p vo vp ts us L R cl cr ks A0:=by
 have hh:=h.keep (q':=fun _=>True) (fun b _ hlt=>hb.block b hlt) hb.size (fun _ _ _=>trivial);have hn1:=h.n;have hn2:=h.eq;have hl:=h.fl;have hk:=h.kl;have ta:∀{A:Option Addr}{xs:List Raw},TreesAtP (fun _=>True) W A xs→TreesAt W A xs:=fun h hne=>by
  obtain⟨b,o,hA,hlt,hb,h⟩:=h hne;exact⟨b,o,hA,hlt,TreesP.toC _ b o h⟩
 refine⟨by omega,fun f hf=>h.rl f hf,fun f hf=>?_,hh.ff,by have:=h.os;omega,by have:=h.ps;omega,hh.vo.toV,hh.vp.toV,by omega,by omega,fun t ht=>?_,h.l,h.r,ta hh.tt,ta hh.uu,by omega,hh.kk⟩
 ·have:=h.gf f hf;have h2:=this.2.2.1;omega
 rcases List.mem_append.1 ht with h1 | h1
 ·have:=h.zt t h1;omega
 have:=(h.zu t h1).1;omega
theorem TapeI.box{T P:Nat}{w w':World}{i i':Int}{A A1 A2:Option Addr}{n n1 n2 c c1 c2:Nat}{v1 v2 v3:Value}(h:TapeI T w)(hne:P≠T)(hq:w.heap[P]?=some (.cells #[.int .i64 i,.slice A n c,.slice A1 n1 c1,.slice A2 n2 c2] 39 (0,0)))(hq':w'.heap[P]?=some (.cells #[.int .i64 i',v1,v2,v3] 39 (0,0)))(ho:Oth P w w'):TapeI T w':=by
 have hlt:=h.lt;obtain⟨B,m,d,j,ht,hj,hm,hc⟩:=h.t;refine⟨⟨B,m,d,j,ho.heap ht (Ne.symm hne),hj,hm,fun hp=>?_⟩⟩;obtain⟨b,o,hB,hbT,hx⟩:=hc hp;refine⟨b,o,hB,hbT,fun k hk=>?_⟩;obtain⟨x,hx⟩:=hx k hk;by_cases hb:b=P
 ·subst hb;rw[zC hq] at hx;have h0:o+k=0:=by
   rcases hk0:o+k with _ | _ | _ | _ | r
   ·rfl
   all_goals (rw[hk0] at hx;simp at hx)
  refine⟨i',?_⟩;rw[zC hq',h0];rfl
 exact⟨x,(ho.cell (p:=⟨b,o+k,none⟩) (by simp only;omega) hb).trans hx⟩
def VfI(w5:World)(P T:Nat)(j:Nat)(wr:World):Prop:=∃(x:Prf)(ix:Int)(A A1 A2:Option Addr)(n n1 n2 c c1 c2:Nat),wr.heap[P]?=some (.cells #[.int .i64 ix,.slice A n c,.slice A1 n1 c1,.slice A2 n2 c2] 39 (0,0))∧PrfP (fun b=>b≠T∧b≠P) wr x (.int .i64 ix) (.slice A n c) (.slice A1 n1 c1) (.slice A2 n2 c2)∧x.size≤2000∧x.ok 5000 (1003-j)∧TapeI T wr∧Below w5.heap.size w5 wr
theorem VfI.next{w5 wr w':World}{P T j:Nat}(h:VfI w5 P T j wr)(hPT:P≠T)(h5:w5.heap.size≤T)(ho:Oth T wr w')(ht:TapeI T w'):VfI w5 P T j w':=by
 obtain⟨x,ix,A,A1,A2,n,n1,n2,c,c1,c2,g1,g2,g3,g4,g5,g6⟩:=h;exact⟨x,ix,A,A1,A2,n,n1,n2,c,c1,c2,ho.heap g1 hPT,PrfP.keep (fun b hb hl=>ho.block b hl (fun e=>hb.1 (zO e))) ho.size (fun _ _ h=>h) x _ _ _ _ g2,g3,g4,ht,Oth.below g6 ho h5 g6.size⟩
theorem VfI.below{w5 wr w':World}{P T j:Nat}(h:VfI w5 P T j wr)(hPT:P≠T)(h5:w5.heap.size≤T)(hb:Below wr.heap.size wr w'):VfI w5 P T j w':=by
 have ht:TapeI T wr:=by
  obtain⟨x,ix,A,A1,A2,n,n1,n2,c,c1,c2,g1,g2,g3,g4,g5,g6⟩:=h;exact g5
 exact h.next hPT h5 (zE hb) (ht.below hb)
theorem VfI.tape{w5 wr:World}{P T j:Nat}(h:VfI w5 P T j wr):TapeI T wr∧Below w5.heap.size w5 wr:=by
 obtain⟨x,ix,A,A1,A2,n,n1,n2,c,c1,c2,g1,g2,g3,g4,g5,g6⟩:=h;exact⟨g5,g6⟩
theorem VfI.ok{w5 wr:World}{P T j:Nat}(h:VfI w5 P T j wr):∃(x:Prf)(ix:Int)(A A1 A2:Option Addr)(n n1 n2 c c1 c2:Nat),wr.heap[P]?=some (.cells #[.int .i64 ix,.slice A n c,.slice A1 n1 c1,.slice A2 n2 c2] 39 (0,0))∧PrfP (fun b=>b≠T∧b≠P) wr x (.int .i64 ix) (.slice A n c) (.slice A1 n1 c1) (.slice A2 n2 c2)∧x.size≤1000000∧x.ok 1000000 1000000∧TapeI T wr∧Below w5.heap.size w5 wr:=by
 obtain⟨x,ix,A,A1,A2,n,n1,n2,c,c1,c2,h1,h2,h3,h4,h5,h6⟩:=h;exact⟨x,ix,A,A1,A2,n,n1,n2,c,c1,c2,h1,h2,by omega,okN (by omega) x (Prf.ok_mono (B':=1000000) (by omega) x h4),h5,h6⟩
theorem orderVerifies_walk(v0 v1:Value)(zs ms:List Int)(w:World)(i0:IntsAt w v0 zs)(i1:IntsAt w v1 ms) :
  Calls Tryz.prog 3 #[v0,v1] w fun e w'=>e=.returned (.bool true)/\zb w w':=by
 obtain⟨AT,cT,rfl⟩:∃A c,v0=.slice A zs.length c:=by obtain⟨A,c,h,_⟩:=i0;exact⟨A,c,h⟩
 obtain⟨AM,cM,rfl⟩:∃A c,v1=.slice A ms.length c:=by obtain⟨A,c,h,_⟩:=i1;exact⟨A,c,h⟩
 obtain⟨w1,hw1⟩:∃w1,w.alloc (.cells #[.slice AT zs.length cT,zI 0] 33)=w1:=⟨_,rfl⟩;have b1:=zG hw1;have t1:=tape_new2 i0;rw[hw1] at t1;have hTw:w.heap.size<w1.heap.size:=t1.lt;have B1:=zH b1;have T1:=zH t1;have I1:=zH i1;clear t1 b1 i0 i1;go_enter Tryz.func3,Tryz.ntmps3;go_wp2_with fail;refine(mAsk_any w.heap.size w1 T1.o).mono ?_;rintro e w2⟨⟨fs,F,f0,rel,o,p,k1,a1,k2,a2,A1,A2,l1,c1,l2,c2,ts,us,L,R,cl,cr,ks,A0,c0,rfl,hrel,hcap,hQ⟩,T2,o2⟩;obtain⟨w3,hw3⟩:∃w3,w2.alloc (.cells #[.slice F fs.length f0,zI rel,zI k1,zI a1,.slice A1 l1 c1,zI k2,zI a2,.slice A2 l2 c2,.slice L ts.length cl,.slice R us.length cr,.slice A0 ks.length c0] 29)=w3:=⟨_,rfl⟩;have b23:=zG hw3;have q3:=zQ hw3;have hQ3:=hQ.keep (q':=fun _=>True) (fun b _ hlt=>b23.block b hlt) b23.size (fun _ _ _=>trivial);have CL:=zH (oLight_any _ fs F o p f0 rel k1 a1 k2 a2 A1 A2 l1 c1 l2 c2 ts us L R cl cr ks A0 c0 w3 hQ3);have B3:Hid (zb w w3):=zH ((Oth.below B1.o o2 (zN _) (by omega)).trans (b23.mono (by have:=o2.size;omega)));have QO:=zH (fun W (hb:zb w3 W)=>hQ3.toQ hb);have HREL:=zH hrel;have CP:=zH (fun W (hb:zb w3 W)=>oProveV_any fs F o p _ _ ts us L R f0 cl cr c0 ks A0 rel W (QO.o W hb) hrel);have CV:=zH (fun W (hb:zb w3 W) (r:Int) (hr:r=1\/r=2\/r=3)=>oVerifyF_any fs F o p _ _ ts us L R f0 cl cr c0 ks A0 r W (QO.o W hb) hr);have CR:=zH (fun W (hb:zb w3 W) (r:Int) (hr:r=1\/r=2\/r=3) (hc:chkF fs o p ts us=0) (q:Nat->Prop) (x:Prf) (u0 u1 u2 u3:Value) h1 h2 h3=>rVerify_any fs F o p _ _ ts us L R f0 cl cr c0 ks A0 r q x u0 u1 u2 u3 W (QO.o W hb) hr hc h1 h2 h3);have CH:=zH (fun W (hb:zb w3 W) (r:Int) (hr:r=1\/r=2\/r=3)=>oHoldsV_any fs F o p _ _ ts us L R f0 cl cr c0 ks A0 r W (QO.o W hb) hr);have HVH:Hid (∀(r:Int)(x:Prf),(r=1\/r=2\/r=3)->chkF fs o p ts us=0->vrf ks fs ts us (odsOf o p) r x=true->hldF ks fs o p ts us r):=zH (fun r x hr hc h=>by
  obtain⟨_,_,hv1,hv2,hsh⟩:=chkF_zero hc;have z1:=vld_zero hv1;have z2:=vld_zero hv2;exact vrf_holds hr hc (odsOf_rng _ _ o p hsh z1.2.1 z2.2.1 z1.2.2 z2.2.2) h)
 obtain⟨nf,hnf⟩:∃n,fs.length=n:=⟨_,rfl⟩;obtain⟨n,hn⟩:∃n,ts.length=n:=⟨_,rfl⟩;obtain⟨n',hn'⟩:∃n,us.length=n:=⟨_,rfl⟩;obtain⟨nk,hnk⟩:∃n,ks.length=n:=⟨_,rfl⟩;obtain⟨nm,hnm⟩:∃n,ms.length=n:=⟨_,rfl⟩;have HNM:=zH hnm;rw[hnf,hn,hn',hnk] at CL CP CV CR CH hw3 q3;rw[hnf,hn,hn',hnk,hnm];have H3:=zH hw3;have QC:Hid (∀W:World,zb w3 W->zc W w2.heap.size 0 (.slice F nf f0)/\zc W w2.heap.size 1 (zI rel)/\zc W w2.heap.size 2 (zI k1)/\zc W w2.heap.size 3 (zI a1)/\zc W w2.heap.size 4 (.slice A1 l1 c1)/\zc W w2.heap.size 5 (zI k2)/\zc W w2.heap.size 6 (zI a2)/\zc W w2.heap.size 7 (.slice A2 l2 c2)/\zc W w2.heap.size 8 (.slice L n cl)/\zc W w2.heap.size 9 (.slice R n' cr)/\zc W w2.heap.size 10 (.slice A0 nk c0)):=zH (fun W hb=>cells11q ((hb.block _ (zL q3)).trans q3));have UP:Hid (∀W,zb w3 W->zb w W):=zH (fun W hb=>B3.o.trans (hb.mono B3.o.size));have I3:Hid (∀W,zb w3 W->IntsAt W (.slice AM ms.length cM) ms):=zH (fun W hb=>I1.o.below (UP.o W hb));have aw:∀W W',zb w3 W->zb W W'->zb w3 W':=fun W W' h h'=>h.trans (h'.mono h.size);clear hnf hn hn' hnk hnm hcap hQ hQ3 q3 b23 hw3 hw1 T1 T2 o2 B1 B3 hrel I1;go_upto_region 2 with fail;rw[H3.o];clear H3;obtain⟨y0,y1,y2,y3,y4,y5,y6,y7,y8,y9,y10⟩:=QC.o _ (zB _ _);go_wp2_with fail;refine CL.o.mono ?_;rintro e w4⟨⟨b,rfl⟩,b4⟩;clear y0 y1 y2 y3 y4 y5 y6 y7 y8 y9 y10 CL;cases b with
 |false =>
  go_wp2_with fail;refine(oAwakeV_any _).mono ?_;rintro e w7⟨rfl,b7⟩;go_wp2_with fail;go_ret;exact⟨rfl,UP.o _ (aw _ _ b4 b7)⟩
 |true =>
  obtain⟨y0,y1,y2,y3,y4,y5,y6,y7,y8,y9,y10⟩:=QC.o _ b4;have CP4:=zH (CP.o _ b4);go_wp2_with fail;refine CP4.o.mono ?_;rintro e w5⟨⟨ix,A,A1',A2',m,m1,m2,c,c1',c2',b,rfl,hb,hpf⟩,b5'⟩;have b5:=aw _ _ b4 b5';have HB:=zH hb;have HPF:=zH hpf;clear y0 y1 y2 y3 y4 y5 y6 y7 y8 y9 y10 CP4 CP b5' hb hpf;obtain⟨w6,hw6⟩:∃w6,w5.alloc (.cells #[zI ix,.slice A m c,.slice A1' m1 c1',.slice A2' m2 c2'] 39)=w6:=⟨_,rfl⟩;have b56:=zG hw6;have q6:=zQ hw6;have H6:=zH hw6;have B56:=zH b56;have Q6:=zH q6;have B5:=zH b5;have b6:=aw _ _ b5 b56;clear hw6 b56 q6 b4;go_upto_region 5 with fail;rw[H6.o];clear H6;cases b with
  |false =>
   go_wp2_with fail;refine(oAwakeV_any _).mono ?_;rintro e w7⟨rfl,b7⟩;go_wp2_with fail;go_ret;exact⟨rfl,UP.o _ (aw _ _ b6 b7)⟩
  |true =>
   have HC:Hid (chkF fs o p ts us=0):=zH (HB.o.1 rfl).1;obtain⟨w7,hw7⟩:∃w7,w6.alloc (.cells #[.slice AM nm cM,zI 0] 33)=w7:=⟨_,rfl⟩;have b67:=zG hw7;have t7:=tape_new2 (I3.o _ b6);rw[HNM.o,hw7] at t7;have l5:=zL Q6.o;have l7:=t7.lt;have b57:zb w5 w7:=B56.o.trans (b67.mono B56.o.size);have V0:Hid (VfI w5 w5.heap.size w6.heap.size 3 w7):=zH (by
    obtain⟨pf,hsz,hpf⟩:=HPF.o rfl;obtain⟨x,hx,hxs,hxo⟩:=PfP.toPrf pf _ _ _ _ hpf;refine⟨x,ix,A,A1',A2',m,m1,m2,c,c1',c2',(b67.block _ l5).trans Q6.o,?_,by omega,hxo,t7,b57⟩;have h0:PrfP (fun b=>b≠w6.heap.size/\b≠w5.heap.size) w5 x (zI ix) (.slice A m c) (.slice A1' m1 c1') (.slice A2' m2 c2'):=PrfP.keep (fun _ _ _=>rfl) (zN _) (fun b hl _=>⟨by have:=B56.o.size;omega,by omega⟩) x _ _ _ _ hx;exact PrfP.below h0 b57)
   have T7:=zH t7;have B7:=zH b57;clear t7 b67 HPF HB;have CN:=zH (tapeI_nextB w6.heap.size 4 w7 (by omega) (by omega) T7.o);go_wp2_with fail;refine CN.o.mono ?_;rintro e w8⟨⟨r,hr,rfl⟩,t8,o8⟩;have hPT:w5.heap.size≠w6.heap.size:=(by omega);have h56:w5.heap.size<=w6.heap.size:=(by omega);have V8:Hid (VfI w5 w5.heap.size w6.heap.size 3 w8):=zH (V0.o.next hPT h56 o8 t8);clear t8 o8 V0 T7 CN hw7 b57;go_wp2_with fail;go_loopw [9] (fun i wr=>∃j:Nat,j<=3/\i=zI (j:Int)/\Hid (VfI w5 w5.heap.size w6.heap.size j wr)) (fun i _=>(intOf i).toNat);case atStart=>exact⟨r,by omega,rfl,zH (by
    obtain⟨x,ix,A,A1',A2',m,m1,m2,c,c1',c2',g1,g2,g3,g4,g5,g6⟩:=V8.o;exact⟨x,ix,A,A1',A2',m,m1,m2,c,c1',c2',g1,g2,g3,Prf.ok_mono (by omega) x g4,g5,g6⟩)⟩
   clear V8;obtain⟨j,hj,rfl,HV⟩:=hrel;by_cases hj0:j=0
   ·subst hj0;have b5w:=HV.o.tape.2;have TW:=zH HV.o.tape.1;have bq:zb w3 wr:=B5.o.trans (b5w.mono B5.o.size);have CN2:=zH (tapeI_nextB w6.heap.size 3 wr (by omega) (by omega) TW.o);obtain⟨y0,y1,y2,y3,y4,y5,y6,y7,y8,y9,y10⟩:=QC.o _ bq;clear b5w bq;go_wp2_with fail;refine CN2.o.mono ?_;rintro e w10⟨⟨r3,hr3,rfl⟩,t10,o10⟩;have V10:Hid (VfI w5 w5.heap.size w6.heap.size 0 w10):=zH (HV.o.next hPT h56 o10 t10);obtain⟨z,hz⟩:∃z:Int,(r3:Int)=z:=⟨_,rfl⟩;rw[hz];have hz3:z=0\/z=1\/z=2:=(by omega);clear hz hr3 t10 o10 HV TW CN2 y0 y1 y2 y3 y4 y5 y6 y7 y8 y9 y10;go_upto_if 59 with fail;go_cut [10] (fun v wx=>∃rq:Int,v=zI rq/\(rq=1\/rq=2\/rq=3)/\Hid (VfI w5 w5.heap.size w6.heap.size 0 wx));case first =>
     rcases hz3 with rfl | rfl | rfl
     ·obtain⟨w11,hw11⟩:∃w11,w10.alloc (.cells #[zI 1,zI 2,zI 3] 3)=w11:=⟨_,rfl⟩;have b11:=zG hw11;have q11:=zQ hw11;have V11:Hid (VfI w5 w5.heap.size w6.heap.size 0 w11):=zH (V10.o.below hPT h56 b11);have CN3:=zH (tapeI_nextB w6.heap.size 3 w11 (by omega) (by omega) V11.o.tape.1);have hT10:w6.heap.size<w10.heap.size:=V10.o.tape.1.lt;have Q11:=zH q11;clear b11 q11;go_wp2_with fail;refine CN3.o.mono ?_;rintro e w12⟨⟨r4,hr4,rfl⟩,t12,o12⟩;have q12:=o12.heap Q11.o (by omega);have V12:Hid (VfI w5 w5.heap.size w6.heap.size 0 w12):=zH (V11.o.next hPT h56 o12 t12);obtain⟨v,hv⟩:∃v:Int,(r4:Int)=v:=⟨_,rfl⟩;rw[hv];have hv3:v=0\/v=1\/v=2:=(by omega);have c0:=zC q12 0;have c1:=zC q12 1;have c2:=zC q12 2;clear hv hr4 t12 o12 q12 CN3 hw11;rcases hv3 with rfl | rfl | rfl
      ·go_wp2_with fail;go_meet;exact⟨1,rfl,.inl rfl,V12⟩
      ·go_wp2_with fail;go_meet;exact⟨2,rfl,.inr (.inl rfl),V12⟩
      go_wp2_with fail;go_meet;exact⟨3,rfl,.inr (.inr rfl),V12⟩
     ·go_wp2_with fail;go_meet;exact⟨rel,rfl,HREL.o,V10⟩
     go_wp2_with fail;go_meet;exact⟨rel,rfl,HREL.o,V10⟩
    obtain⟨rq,rfl,hrq,HW⟩:=hcut;obtain⟨x,ix,A,A1',A2',m,m1,m2,c,c1',c2',g1,g2,g3,g4,_,g6⟩:=HW.o.ok;have bq:zb w3 wc:=B5.o.trans (g6.mono B5.o.size);obtain⟨a,ha⟩:∃a,vrf ks fs ts us (odsOf o p) rq x=a:=⟨_,rfl⟩;have e0:(decide (chkF fs o p ts us=0) && vrf ks fs ts us (odsOf o p) rq x)=a:=(by rw[ha,HC.o];simp);have CV1:=CV.o wc bq rq hrq _ x _ _ _ _ g2 g3 g4;rw[e0] at CV1;have CV2:=zH CV1;have CR2:=zH (fun W (hW:zb wc W)=>by
     have h:=CR.o W (aw _ _ bq hW) rq hrq HC.o _ x _ _ _ _ g3 g4 (PrfP.below g2 hW);rwa[ha] at h)
    have CH2:=zH (fun W (hW:zb wc W)=>by
     have h:=CH.o W (aw _ _ bq hW) rq hrq;rwa[HC.o] at h)
    have HA:Hid (a=true->hldF ks fs o p ts us rq):=zH (fun h=>HVH.o rq x hrq HC.o (ha.trans h));have PC:Hid (∀W,zb wc W->zc W w5.heap.size 0 (zI ix)/\zc W w5.heap.size 1 (.slice A m c)/\zc W w5.heap.size 2 (.slice A1' m1 c1')/\zc W w5.heap.size 3 (.slice A2' m2 c2')):=zH (fun W hW=>cells4v ((hW.block _ (zL g1)).trans g1));have BQ:=zH bq;obtain⟨res,hres⟩:∃res,hldF ks fs o p ts us rq=res:=⟨_,rfl⟩;rw[hres] at CH2 HA;clear g1 g2 g3 g4 g6 ha e0 CV1 CV CR CH HVH HW hres bq;obtain⟨y0,y1,y2,y3,y4,y5,y6,y7,y8,y9,y10⟩:=QC.o _ BQ.o;obtain⟨z0,z1,z2,z3⟩:=PC.o _ (zB _ _);go_wp2_with fail;refine CV2.o.mono ?_;rintro e w13⟨rfl,b13⟩;have CR3:=zH (CR2.o _ b13);have B13:=zH b13;clear y0 y1 y2 y3 y4 y5 y6 y7 y8 y9 y10 z0 z1 z2 z3 CV2 CR2;obtain⟨y0,y1,y2,y3,y4,y5,y6,y7,y8,y9,y10⟩:=QC.o _ (aw _ _ BQ.o b13);obtain⟨z0,z1,z2,z3⟩:=PC.o _ b13;clear b13;go_wp2_with fail;refine CR3.o.mono ?_;rintro e w14⟨rfl,b14'⟩;have b14:zb wc w14:=B13.o.trans (b14'.mono B13.o.size);have CH3:=zH (CH2.o _ b14);have B14:=zH b14;clear y0 y1 y2 y3 y4 y5 y6 y7 y8 y9 y10 z0 z1 z2 z3 CR3 CH2 b14';obtain⟨y0,y1,y2,y3,y4,y5,y6,y7,y8,y9,y10⟩:=QC.o _ (aw _ _ BQ.o b14);clear b14;cases a with
    |false =>
     go_wp2_with fail;refine CH3.o.mono ?_;rintro e w15⟨⟨b,rfl,_⟩,b15⟩;have B15:=zH (aw _ _ (aw _ _ BQ.o B14.o) b15);clear y0 y1 y2 y3 y4 y5 y6 y7 y8 y9 y10 CH3 b15;go_wp2_with fail;refine(oAwakeV_any _).mono ?_;rintro e w16⟨rfl,b16⟩;go_wp2_with fail;go_ret;exact⟨rfl,UP.o _ (aw _ _ B15.o b16)⟩
    |true =>
     go_wp2_with fail;refine CH3.o.mono ?_;rintro e w15⟨⟨b,rfl,hb⟩,b15⟩;obtain rfl:b=true:=hb.2 (HA.o (by first | rfl | trivial));have B15:=zH (aw _ _ (aw _ _ BQ.o B14.o) b15);clear y0 y1 y2 y3 y4 y5 y6 y7 y8 y9 y10 CH3 b15 hb;go_wp2_with fail;refine(oAwakeV_any _).mono ?_;rintro e w16⟨rfl,b16⟩;go_wp2_with fail;go_ret;exact⟨rfl,UP.o _ (aw _ _ B15.o b16)⟩
   obtain⟨j',hj'⟩:∃j',j=j'+1:=⟨j-1,by omega⟩;subst hj';have hd1:decide ((j':Int)+1>0)=true:=Zt (by omega);have hd2:decide ((0:Int)<(j':Int)+1)=true:=Zt (by omega);have hgt:(0:Int)<(j':Int)+1:=(by omega);obtain⟨x,ix,A,A1',A2',m,m1,m2,c,c1',c2',g1,g2,g3,g4,g5,g6⟩:=HV.o;have g6s:=g6.size;have lP:=zL g1;have lT:=g5.lt;have G1:=zH g1;have G3:=zH g3;have G6:=zH g6;obtain⟨z0,z1,z2,z3⟩:=cells4v g1;have CS:=zH (spoilt_upto w6.heap.size 2000 (by omega) (fun b=>b≠w6.heap.size/\b≠w5.heap.size) 5000 (1003-(j'+1)) x _ _ _ _ wr (fun h=>h.1 rfl) (by omega) (by omega) g3 g4 g2 g5);clear g1 g2 g3 g4 g5 g6 HV;go_wp2_with fail;refine CS.o.mono ?_;rintro e w9⟨⟨x',u0,u1,u2,u3,rfl,hx',hxs',hxo'⟩,t9,o9⟩;obtain⟨iy,py,cy,ky,D0,D1,D2,d0,d1,d2,hxe,rfl,rfl,rfl,rfl⟩:=hx'.open_;have g9:=o9.heap G1.o hPT;obtain⟨s1,s2,s3,s4,k1,k2,k3,k4,⟨r0,r1,r2,r3⟩,⟨e0,e1,e2,e3⟩,hq,ho⟩:=put4 g9 (zI iy) (.slice D0 py.length d0) (.slice D1 cy.length d1) (.slice D2 ky.length d2);have HN:Hid (VfI w5 w5.heap.size w6.heap.size j' s4):=zH (by
    have b9:=Oth.below G6.o o9 h56 g6s;refine⟨x',iy,D0,D1,D2,_,_,_,d0,d1,d2,hq,?_,by have:=G3.o;omega,by rwa[show 1003-(j'+1)+1=1003-j' by omega] at hxo',t9.box hPT g9 hq ho,Oth.below b9 ho (zN _) b9.size⟩;refine PrfP.keep (fun b hb hl=>ho.block b hl (fun e=>?_)) ho.size (fun b hl hb=>?_) x' _ _ _ _ hx'
    ·have e:=zO e;rcases hb with hb | hb
     ·exact hb.2 e
     omega
    rcases hb with hb | hb
    ·exact hb
    exact⟨by omega,by omega⟩)
   clear hxe hx' hxs' hxo' t9 o9 g9 hq ho CS z0 z1 z2 z3 G1 G6;go_wp2_with fail;go_roundw;case rel=>exact⟨j',by omega,by go_num,HN⟩
   case measure=>simp[intOf] <;> omega
end Go.Proofs.YtadjpadieljjlaaGreat
namespace Go.Proofs.YtadjpadieljjlaaGreat.orderVerifies
open Go.ChangeShapes Go.WideShapes Go.ChangeAt Go.RowKit
theorem readable:∀t∈Tryz.f3.params.toList,Tryz.prog.readableRec t=true∧t<Tryz.prog.types.size:=by
 have h:(Tryz.f3.params.toList.all fun t=>Tryz.prog.readableRec t && decide (t<Tryz.prog.types.size))=true:=by kernel_rfl
 intro t ht;have:=List.all_eq_true.1 h t ht;simp only[Za,Zd] at this;exact this
theorem lifted(os:Os)(started:os.Started)(H:Type)(enc:TypeId × Value→H) :
  ReturnsInHanded {} Tryz.checked os 3 .any (Rows.orderVerifiesSpec.pre6 enc Tryz.prog Tryz.f3 Rows.orderVerifiesRow.domain false) (Rows.orderVerifiesSpec.post enc Tryz.prog Tryz.f3 false true false false):=by
 refine returnsInHanded_of_change (C:=Tryz.checked) own started (by kernel_rfl) Tryz.func3
  (ChangeSpec.witness6 (enc:=enc) (C:=Tryz.checked) false ⟨#[],#[.slice none 0 0,.slice none 0 0],[]⟩ 8 (by kernel_rfl) (by kernel_rfl) (by kernel_rfl) (by kernel_rfl)) ?_
 intro W base args ds gs before hval0 hW hcnd _;have hval:∀(j:Nat) t v,Tryz.f3.params[j]?=some t→args[j]?=some v→Value.okWide Tryz.prog W .any base t v:=hval0;have hW':=hW;obtain⟨p,q,hA0,hV,rfl,hfz,hnd⟩:=hW;have hA:DataW.TrodAll enc Tryz.prog W 0 (fun _=>true) true Tryz.f3.params.toList args.toList ds p:=hA0;rw[Tryz.params3] at hA hval;obtain⟨v0,vs0,d0,ds0,p0,q0,hargs,rfl,rfl,h0,r0⟩:=trodAll_cons hA;obtain⟨v1,vs1,d1,ds1,p1,q1,e1,rfl,rfl,h1,r1⟩:=trodAll_cons r0;obtain⟨e2,rfl,rfl⟩:=trodAll_nil r1;obtain rfl:args=#[v0,v1]:=by cases args;simp_all
 obtain⟨rfl,rfl⟩:=trodVars_none hV;obtain⟨z0,i0⟩:=intsAt_of (hval 0 22 v0 rfl rfl) h0;obtain⟨z1,i1⟩:=intsAt_of (hval 1 22 v1 rfl rfl) h1;clear hA0 hval0;refine(orderVerifies_walk v0 v1 z0 z1 W i0 i1).mono fun e W' ⟨he,hb⟩=>?_;subst he;exact⟨_,rfl,law_post rfl ⟨rfl,rfl,rfl⟩ rfl readable hW' hb⟩
theorem said:Rows.OrderVerifiesSaid :=
 OpenClaim.holds_of_wide 3 Tryz.f3 rfl rfl rfl rfl rfl rfl rfl ⟨rfl,rfl,rfl,rfl,rfl⟩ rfl rfl rfl rfl rfl (by kernel_rfl) Tryz.func3 (by kernel_rfl)
  (of_decide_eq_true (by kernel_rfl)) (by unfold Func.isWrapper;first | (rw[if_pos (by decide +kernel)];kernel_rfl) | (rw[if_neg (by decide +kernel)];exact⟨rfl,rfl⟩))
  (fun os started H enc _=>lifted os started H enc)
end Go.Proofs.YtadjpadieljjlaaGreat.orderVerifies
