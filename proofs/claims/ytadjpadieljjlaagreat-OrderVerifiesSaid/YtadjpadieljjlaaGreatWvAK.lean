/- Parts of the proof that no input makes the law false: OcChn, OcArgP. -/
import Derived.BigQuiet
import Derived.Deep.LoopGhost
import Derived.Test.YtadjpadieljjlaaGreatWvAJ
set_option linter.unusedVariables false
set_option linter.unusedSimpArgs false
set_option maxRecDepth 100000
set_option maxHeartbeats 32000000
namespace Go.Proofs.YtadjpadieljjlaaGreat
open Go.RowKit Go.Maps _root_.Lfc
def ChnAns(ks:List Int)(fs:List Fact)(Mb:Nat)(q:Nat→Prop)(w:World)(r:Prop)(e:Ending)(w':World):Prop :=
 (∃A n c b,e=.returned (.tuple #[.slice A n c,.bool b])∧LkO q w' A n c∧n≤4*fs.length+1∧(b=true↔r))∧Cache ks fs Mb q w'∧Oth Mb w w'
def EdX(wr:World)(S0:Int)(s:Value)(wx:World):Prop:=∃g A n c,s=.pointer (some ⟨g,0,none⟩)∧wx.heap[g]?=some (.cells #[.int .i64 S0,.slice A n c] 183 (0,0))∧n≤1∧LkO (fun b=>wr.heap.size≤b∧b≠g) wx A n c∧Below wr.heap.size wr wx∧wr.heap.size≤g
theorem QRow.shape{W:World}{base:Nat}{v:Value}{zs:List (Nat × Int)}(h:QRow W base v zs):∃A c,v=.slice A zs.length c:=by
 rcases h with⟨rfl,rfl⟩ | ⟨g,o,cap,cur,rfl,_⟩
 ·exact⟨_,_,rfl⟩
 exact⟨_,_,rfl⟩
def Made3(nn:Nat)(w4:World)(k:Nat)(wr:World):Prop:=Below w4.heap.size w4 wr∧∃(cur:Array Value)(g:Nat→Nat),cur.size=3∧wr.heap[w4.heap.size]?=some (.cells cur 191 (0,0)) ∧
 (∀j,j<k→cur[j]?=some (.slice (some ⟨g j,0,none⟩) nn nn)∧w4.heap.size<g j∧g j<wr.heap.size∧wr.heap[g j]?=some (.cells (madeCells (#[.bool false,.slice none 0 0]:Array Value) (nn*2)) 194 (0,0)))∧∀i j,i<j→j<k→g i<g j
theorem Made3.next{nn k:Nat}{w4 wr:World}(h:Made3 nn w4 k wr)(hk:k<3):∃wa v,wr.alloc (.cells (madeCells (#[.bool false,.slice none 0 0]:Array Value) (nn*2)) 194)=wa∧wa.cell? ⟨w4.heap.size,k,none⟩=some v∧wa.frozen? ⟨w4.heap.size,k,none⟩=false∧Hid (Made3 nn w4 (k+1) (wa.setCell ⟨w4.heap.size,k,none⟩ (.slice (some ⟨wr.heap.size,0,none⟩) nn nn))):=by
 obtain⟨hb,cur,g,hs,hc,hg,hlt⟩:=h;have hlr:=zL hc;obtain⟨wa,hwa⟩:∃wa,wr.alloc (.cells (madeCells (#[.bool false,.slice none 0 0]:Array Value) (nn*2)) 194)=wa:=⟨_,rfl⟩;have ba:=zG hwa;have qa:=zQ hwa;have la:=zL qa;have hca:=(ba.block _ hlr).trans hc;have ho:Oth w4.heap.size wa (wa.setCell ⟨w4.heap.size,k,none⟩ (.slice (some ⟨wr.heap.size,0,none⟩) nn nn)):=Oth.set _ _;refine⟨wa,_,hwa,(zC hca k).trans (Array.getElem?_eq_getElem (by omega)),zF hca k,zH ⟨Oth.below (hb.trans (ba.mono hb.size)) ho (zN _) (zR hb.size ba.size),cur.set! k (.slice (some ⟨wr.heap.size,0,none⟩) nn nn),fun j=>if j=k then wr.heap.size else g j,by simp[hs],by simp[World.setCell,zM,hca],fun j hj=>?_,fun i j hij hj=>?_⟩⟩
 ·have hsz:=ho.size;by_cases e:j=k
  ·subst e;simp only[↓reduceIte];refine⟨?_,hlr,by omega,(ho.block _ la (fun e=>by have:=zO e;omega)).trans qa⟩;simp only[Array.set!_eq_setIfInBounds];rw[Array.getElem?_setIfInBounds,if_pos rfl,if_pos (by omega)]
  simp only[if_neg e];obtain⟨h1,h2,h3,h4⟩:=hg j (by omega);refine⟨?_,h2,by omega,(ho.block _ (by omega) (fun e=>by have:=zO e;omega)).trans ((ba.block _ h3).trans h4)⟩;simp only[Array.set!_eq_setIfInBounds];rw[Array.getElem?_setIfInBounds,if_neg (Ne.symm e)];exact h1
 have hi:i≠k:=by omega
 simp only[if_neg hi];by_cases e:j=k
 ·simp only[if_pos e];exact(hg i (by omega)).2.2.1
 simp only[if_neg e];exact hlt i j hij (by omega)
theorem cur3{cur:Array Value}{v0 v1 v2:Value}(hs:cur.size=3)(h0:cur[0]?=some v0)(h1:cur[1]?=some v1)(h2:cur[2]?=some v2):cur=#[v0,v1,v2]:=by
 apply Array.ext (by simp[hs]);intro i hi hi2;have h3:i<3:=by omega
 match i,h3 with
 |0,_=>rw[Array.getElem?_eq_getElem hi] at h0;exact zO h0
 |1,_=>rw[Array.getElem?_eq_getElem hi] at h1;exact zO h1
 |2,_=>rw[Array.getElem?_eq_getElem hi] at h2;exact zO h2
theorem oChain_any(q:Nat->Prop)(Bx Mb:Nat)(F A0 L R:Option Addr)(f0 c0 cl cr:Nat)(fs:List Fact)(ks:List Int)(ts us:List Raw)(must:Int)(t u:Raw)(vt vu:Value)(w:World)(hks:ks.length<=1000000)(hfl:fs.length<=400)(hfz:∀f∈fs,f.l.size<=1000/\f.r.size<=1000)(ht:t.size<=1000)(hu:u.size<=1000)
  (hP:PvO w Bx Mb F A0 L R f0 c0 cl cr fs ks ts us) (hC:Cache ks fs Mb q w) (hq:∀b,w.heap.size<=b->q b) (hqM:∀b,q b->b≠Mb) (hv:TreeVP (fun b=>b≠Mb) w t vt) (hv':TreeVP (fun b=>b≠Mb) w u vu) :
  Calls Tryz.prog 161 #[.pointer (some ⟨Bx,0,none⟩),vt,vu,zI must] w (ChnAns ks fs Mb q w (chn ks fs t u must)):=by
 have HV:=zH hv;have HV':=zH hv';obtain⟨A,c,kd,nm,ps,xs,hT,rfl⟩:∃A c kd nm ps xs,t=.node kd nm ps xs/\vt=.agg (zT kd nm ps A xs c):=by
  obtain⟨kd,nm,ps,ts⟩:=t;obtain⟨A,c,rfl,hc,hA⟩:=hv.toV.open_;exact⟨A,c,kd,nm,ps,ts,rfl,rfl⟩
 obtain⟨A',c',kd',nm',ps',ys,hU,rfl⟩:∃A c kd nm ps xs,u=.node kd nm ps xs/\vu=.agg (zT kd nm ps A xs c):=by
  obtain⟨kd,nm,ps,ts⟩:=u;obtain⟨A,c,rfl,hc,hA⟩:=hv'.toV.open_;exact⟨A,c,kd,nm,ps,ts,rfl,rfl⟩
 obtain⟨w1,hw1⟩:∃w1,w.alloc (.cells (zT kd nm ps A xs c) 51)=w1:=⟨_,rfl⟩;obtain⟨w2,hw2⟩:∃w2,w1.alloc (.cells (zT kd' nm' ps' A' ys c') 51)=w2:=⟨_,rfl⟩;have b1:=zG hw1;have b2:=zG hw2;have q1:=zQ hw1;have q2:=zQ hw2;have l1:=zL q1;have l2:=zL q2;have b02:zb w w2:=b1.trans (b2.mono (by omega));have B02:=zH b02;have s02:w.heap.size<=w2.heap.size:=by omega
 have Q1:=zH ((b2.block _ l1).trans q1);have Q2:=zH q2;obtain⟨y0,y1,y2,y3⟩:=cells4t Q1.o;obtain⟨z0,z1,z2,z3⟩:=cells4t Q2.o;have HP:=zH hP;have HC:=zH hC;have HQ:=zH hq;have HQM:=zH hqM;have hMb:=hC.lt;have hBx:=hP.lt;have x0:=(b02.cell (p:=⟨Bx,0,none⟩) hBx).trans hP.facts;have UP:Hid (∀W t' u' vt' vu',Oth Mb w W->t'.size<=1000->u'.size<=1000->TreeVP (fun b=>b≠Mb) W t' vt'->TreeVP (fun b=>b≠Mb) W u' vu'->Calls Tryz.prog 163 #[.pointer (some ⟨Bx,0,none⟩),vt',vu'] W (fun e W'=>∃A n c,e=.returned (.agg #[zI (upS ks t' u'),.slice A n c])/\n<=1/\LkO (fun b=>W.heap.size<=b) W' A n c/\zb W W')):=zH (fun W t' u' vt' vu' hW ht hu hvt hvu=>(oUp_any Bx ks A0 c0 _ _ vt' vu' W hks (zR ht (by decide)) (zR hu (by decide)) (HP.o.oth hW).ks.toO hvt.toV hvu.toV (HP.o.oth hW).kinds (HP.o.oth hW).lt).mono (fun e W' h=>by
  obtain⟨v,rfl,⟨A,n,c,rfl,hn,hl⟩,hb⟩:=edV_of_up (q:=fun b=>W.heap.size<=b) hu h (fun b hb=>hb);exact⟨A,n,c,rfl,hn,hl,hb⟩))
 have SD:Hid (∀W k,Oth Mb w W->k<2*fs.length->Calls Tryz.prog 150 #[.pointer (some ⟨Bx,0,none⟩),zI (k:Int)] W (SideAns (fun b=>b≠Mb) W (sd fs k))):=zH (fun W k hW hk=>oSide_any _ Bx k fs _ f0 W (by omega) hk (HP.o.oth hW).fs (HP.o.oth hW).facts (HP.o.oth hW).lt);have ST:Hid (∀W i j q',Oth Mb w W->Cache ks fs Mb q' W->(∀b,W.heap.size<=b->q' b)->(∀b,q' b->b≠Mb)->i<2*fs.length->j<2*fs.length->j≠i->Calls Tryz.prog 166 #[.pointer (some ⟨Bx,0,none⟩),zI (i:Int),zI (j:Int)] W (StepAns ks fs Mb q' W (stp ks fs i j))):=zH (fun W i j q' hW hC' hq' hqM' hi hj hij=>oStep_any q' Bx Mb i j F A0 L R f0 c0 cl cr fs ks ts us W hks hfl hfz (HP.o.oth hW) hC' hq' hqM' hi hj hij);have SDZ:Hid (∀k,(sd fs k).size<=1000):=zH (sd_size hfz);have HTU:Hid (t.size<=1000/\u.size<=1000):=zH ⟨ht,hu⟩;have CU:=zH (UP.o w2 t u _ _ (zE b02) ht hu (HV.o.oth (zE b02)) (HV'.o.oth (zE b02)));obtain⟨S1,hS1⟩:∃S1,upS ks t u=S1:=⟨_,rfl⟩;rw[hS1] at CU;have HS1:=zH hS1;obtain⟨rr,hrr⟩:∃rr,chn ks fs t u must=rr:=⟨_,rfl⟩;rw[hrr];have HRR:=zH hrr;obtain⟨fl,hfl0⟩:∃fl,fs.length=fl:=⟨_,rfl⟩;rw[hfl0] at x0;have HFL:=zH hfl0;obtain⟨nn,hnn⟩:∃nn,2*fl=nn:=⟨_,rfl⟩;have hnb:nn<=1000:=by omega
 have hwr:IntKind.i64.wrap (2*(fl:Int))=(nn:Int):=by rw[Zi _ (by omega)];omega
 have HNN:Hid (2*fs.length=nn):=zH (by omega);clear hT hU hv hv' b1 b2 q1 q2 b02 hS1 hrr hfl0 hnn hP hC hq hqM hfz;go_enter Tryz.func161,Tryz.ntmps161;go_wp2_with fail;refine CU.o.mono ?_;rintro e w3⟨A3,n3,c3,rfl,hn3,hl3,b3⟩;clear y0 y1 y2 y3 z0 z1 z2 z3 x0 CU hw1 hw2;obtain⟨w4,hw4⟩:∃w4,w3.alloc (.cells #[zI S1,.slice A3 n3 c3] 183)=w4:=⟨_,rfl⟩;have b4:=zG hw4;have q4:=zQ hw4;have HW4:=zH hw4;have b24:zb w2 w4:=b3.trans (b4.mono b3.size);have b04:zb w w4:=B02.o.trans (b24.mono s02);have B24:=zH b24;have B04:=zH b04;obtain⟨y0,y1⟩:=cells2e q4;have HL4:=zH (hl3.keep (q':=q) (fun b hb hlt=>b4.block b hlt) b4.size (fun b _ hb=>HQ.o b (zR s02 hb)));have s24:=b24.size;have C4:=zH (HC.o.below b04);clear hw4 b3 b4 q4 b24 b04 hl3;go_upto_region 3 with fail;rw[HW4.o];by_cases hm:must<=S1
 ·have hd1:decide (S1≥must)=true:=Zt hm;have hd2:decide (must<=S1)=true:=Zt hm;have HZ:Hid (ChnAns ks fs Mb q w rr (.returned (.tuple #[.slice A3 n3 c3,.bool true])) w4):=zH ⟨⟨A3,n3,c3,true,rfl,HL4.o,by omega,by rw[<-HRR.o];exact⟨fun _=>.inl (by rw[HS1.o];exact hm),fun _=>rfl⟩⟩,C4.o,zE B04.o⟩;clear hm HL4;go_wp2_with fail;refine Zb (results_tmp2 rfl _ _ _) ?_;exact HZ.o
 have hd1:decide (S1≥must)=false:=Zu hm;have hd2:decide (must<=S1)=false:=Zu hm;have HND:Hid (¬must<=upS ks t u):=zH (by rw[HS1.o];exact hm);clear hm HL4;obtain⟨w5,hw5⟩:∃w5,w4.alloc (.cells #[zS,zS,zS] 191)=w5:=⟨_,rfl⟩;have b5:=zG hw5;have q5:=zQ hw5;have I0:Hid (Made3 nn w4 0 w5):=zH ⟨b5,_,fun _=>0,rfl,q5,fun j hj=>absurd hj (Nat.not_lt_zero _),fun _ j _ hj=>absurd hj (Nat.not_lt_zero _)⟩;have hmk:=makeReached;clear b5 q5;go_wp2_with fail;go_loopw [40] (fun i wr=>∃k:Nat,k<=3/\i=zI (k:Int)/\Hid (Made3 nn w4 k wr)) (fun i _=>3-(intOf i).toNat);case atStart=>exact⟨0,by omega,rfl,I0⟩
 clear I0 hw5 y0 y1;obtain⟨k,hk,rfl,HI⟩:=hrel;by_cases hlt:k<3
 ·have hi0:=zP k;have hi1:(k:Int)<3:=by omega
  have hmk2:=hmk wr nn hnb;obtain⟨wa,va,hwa,z0,z1,HN⟩:=HI.o.next hlt;clear HI hmk;go_wp2_with fail;go_roundw;case rel=>exact⟨k+1,by omega,by go_num,HN⟩
  case measure=>simp[intOf];omega
 obtain rfl:k=3:=by omega
 clear hmk;obtain⟨wq,hwq⟩:∃wq,wq=wr:=⟨_,rfl⟩;subst hwq;obtain⟨bq4,cur,g,hcs,hcur,hg,hgl⟩:=HI.o;obtain⟨c_0,a0,e0,d0⟩:=hg 0 (by omega);obtain⟨c_1,a1,e1,d1⟩:=hg 1 (by omega);obtain⟨c_2,a2,e2,d2⟩:=hg 2 (by omega);have g01:=hgl 0 1 (by omega) (by omega);have g12:=hgl 1 2 (by omega) (by omega);rw[cur3 hcs c_0 c_1 c_2] at hcur;generalize g 0=g0 at *;generalize g 1=g1 at *;generalize g 2=g2 at *;have lq:=zL hcur;obtain⟨w6,hw6⟩:∃w6,wq.alloc (.cells #[zS] 192)=w6:=⟨_,rfl⟩;have b6:=zG hw6;have q6:=zQ hw6;have l6:=zL q6;have bS:zb w w6:=B04.o.trans ((bq4.trans (b6.mono bq4.size)).mono (zR s02 s24));have HOK:Hid (Spot.Ok ⟨w4.heap.size,g0,g1,g2,wq.heap.size,nn,Mb⟩ q w6):=zH ⟨⟨by simp only;omega,by simp only;omega,by simp only;omega,by simp only;omega,by simp only;omega⟩,⟨by simp only;omega,by simp only;omega,by simp only;omega,by simp only;omega,by simp only;omega,by simp only;omega⟩,⟨by simp only;omega,by simp only;omega,by simp only;omega,by simp only;omega⟩,HQM.o,fun b hb=>HQ.o b (by have:=bS.size;omega)⟩;have HS6:Hid (ChSt ks fs ⟨w4.heap.size,g0,g1,g2,wq.heap.size,nn,Mb⟩ q w6 (fun _ _=>false) [] (2*nn) zS w6):=zH (ChSt.init HOK.o ((b6.block _ lq).trans hcur) ((b6.block _ e1).trans d1) ((b6.block _ e2).trans d2) q6 (HC.o.keep (row:=none) ⟨bS.os,bS.tape,bS.output,bS.size,fun k hk _=>bS.block k hk⟩ (fun e=>by cases e) (fun _ _ _ e=>by cases e) (fun b hb hq=>⟨hq,⟨by simp only;omega,by simp only;omega,by simp only;omega,by simp only;omega⟩,by simp[Value.ownBlock]⟩)));have TOT:Hid (∀R zs U v W,ChSt ks fs ⟨w4.heap.size,g0,g1,g2,wq.heap.size,nn,Mb⟩ q w6 R zs U v W->Oth Mb w W/\zk W w.heap.size (zT kd nm ps A xs c) 51/\zk W w1.heap.size (zT kd' nm' ps' A' ys c') 51/\w6.heap.size<=W.heap.size):=zH (fun R zs U v W h=>by
  have hf:=h.frame;have b26:zb w2 w6:=B24.o.trans ((bq4.trans (b6.mono bq4.size)).mono s24);refine⟨⟨hf.os.trans bS.os,hf.tape.trans bS.tape,hf.output.trans bS.output,zR bS.size hf.size,fun b hb hn=>(hf.block b (Zl hb bS.size) ⟨fun e=>hn (by rw[e]),by simp only;omega,by simp only;omega,by simp only;omega,by simp only;omega⟩).trans (bS.block b hb)⟩,?_,?_,hf.size⟩
  ·exact(hf.block _ (by omega) ⟨by simp only;omega,by simp only;omega,by simp only;omega,by simp only;omega,by simp only;omega⟩).trans ((b26.block _ (by omega)).trans Q1.o)
  exact(hf.block _ (by omega) ⟨by simp only;omega,by simp only;omega,by simp only;omega,by simp only;omega,by simp only;omega⟩).trans ((b26.block _ l2).trans Q2.o))
 have H26:Hid (w2.heap.size<=w6.heap.size):=zH (by have:=bq4.size;omega);have HI0:Hid (∀n,n=nn->SInv ks fs t u must (fun _ _=>false) [] 0 none):=zH (fun _ _=>SInv.init);clear hcur hg hgl c_0 c_1 c_2 a0 a1 a2 e0 e1 e2 d0 d1 d2 g01 g12 hcs bq4 b6 q6 bS lq HI HC;go_wp2_with fail;go_loopw [50] (fun i wr=>∃(k:Nat)(R:Nat->Int->Bool)(zs:List (Nat × Int))(U:Nat)(v:Value),k<=nn/\i=zI (k:Int)/\Hid (ChSt ks fs ⟨w4.heap.size,g0,g1,g2,wq.heap.size,nn,Mb⟩ q w6 R zs U v wr/\SInv ks fs t u must R zs k none/\zs.length+U<=2*nn)) (fun i _=>nn-(intOf i).toNat);case atStart=>exact⟨0,_,_,_,_,by omega,rfl,zH ⟨HS6.o,HI0.o nn rfl,by simp⟩⟩
 clear HS6 HI0 hw6;obtain⟨k,R',zs,U,v,hk,rfl,HI⟩:=hrel;by_cases hlt:k<nn
 ·have hi0:=zP k;have hi1:(k:Int)<(nn:Int):=by omega
  obtain⟨hot,hql,hqr,hsz⟩:=TOT.o _ _ _ _ _ HI.o.1;have hk2:k<2*fs.length:=by rw[HNN.o];exact hlt
  obtain⟨S0,hS0⟩:∃S0,upS ks t (sd fs k)=S0:=⟨_,rfl⟩;have HS0:=zH hS0;have hlw:w.heap.size<wr.heap.size:=by have:=H26.o;omega
  have SC:Hid (∀W,zb wr W->zc W w.heap.size 0 (zI kd)/\zc W w.heap.size 1 (S nm)/\zc W w.heap.size 2 (zI ps)/\zc W w.heap.size 3 (.slice A xs.length c)):=zH (fun W hw=>cells4t ((hw.block _ hlw).trans hql));have SDk:Hid (∀W,zb wr W->Calls Tryz.prog 150 #[.pointer (some ⟨Bx,0,none⟩),zI (k:Int)] W (SideAns (fun b=>b≠Mb) W (sd fs k))):=zH (fun W hw=>SD.o W k (hot.trans (zE hw)) hk2);have UPk:Hid (∀W vs,zb wr W->TreeVP (fun b=>b≠Mb) W (sd fs k) vs->Calls Tryz.prog 163 #[.pointer (some ⟨Bx,0,none⟩),.agg (zT kd nm ps A xs c),vs] W (fun e W'=>∃A n c,e=.returned (.agg #[zI S0,.slice A n c])/\n<=1/\LkO (fun b=>W.heap.size<=b) W' A n c/\zb W W')):=zH (fun W vs hw hvs=>by
   have hO:=hot.trans (zE hw);have h:=UP.o W t (sd fs k) _ vs hO HTU.o.1 (SDZ.o k) (HV.o.oth hO) hvs;rw[HS0.o] at h;exact h)
  have G0:zb wr wr.drew:=(zB _ _).drew;clear hot hql hqr hsz hS0;go_upto_region 16 with fail;go_cut [17] (fun s wx=>Hid (EdX wr S0 s wx));case first =>
   refine wp_region_held_drew (S:=fun W=>zc W w.heap.size 0 (zI kd)/\zc W w.heap.size 1 (S nm)/\zc W w.heap.size 2 (zI ps)/\zc W w.heap.size 3 (.slice A xs.length c)) (by kernel_rfl) ?_ (fun hH=>?_)
   ·exact SC.o _ G0
   refine tk 0 ?_;refine tk 1 ?_;refine tk 2 ?_;refine tk 3 ?_;refine rd2 4 6 (fun K hK=>?_) (fun K hK=>?_)
   ·go_simp;go_at_call 150;refine(SDk.o _ (G0)).mono ?_;rintro e w5⟨⟨vs,rfl,hvs⟩,b5'⟩;have b5:=(G0).trans (b5'.mono (G0).size);refine hK.out _ _ ?_ (fun hH=>?_)
    ·(try dsimp only)
     exact SC.o _ b5
    clear hK K;refine nrm ?_;refine rd2 5 6 (fun K hK=>?_) (fun K hK=>?_)
    ·go_simp;go_at_call 163;refine(UPk.o _ _ (b5) (hvs)).mono ?_;rintro e w6⟨A9,n9,c9,rfl,hn9,hl9,b6'⟩;have b6:=(b5).trans (b6'.mono (b5).size);refine hK.out _ _ ?_ (fun hH=>?_)
     ·(try dsimp only)
      exact SC.o _ b6
     clear hK K;refine nrm ?_;have bA:zb wr (w6.alloc (.cells #[zI 0,zS] 183)):=b6.alloc b6.size _;have bN:zb wr (w6.alloc (.cells #[zI S0,.slice A9 n9 c9] 183)):=b6.alloc b6.size _;refine rd1 6 (fun K hK=>?_);go_simp;refine hK.out _ _ ?_ (fun hH=>?_)
     ·(try dsimp only)
      exact SC.o _ bA
     clear hK K;refine nrm ?_;have HR:Hid (EdX wr S0 (.pointer (some ⟨w6.heap.size,0,none⟩)) (w6.alloc (.cells #[zI S0,.slice A9 n9 c9] 183))):=zH ⟨w6.heap.size,A9,n9,c9,rfl,zW _ _,hn9,hl9.keep (fun j _ hlt=>zA _ _ _ hlt) (by simp) (fun j hlt hj=>⟨zR b5.size hj,by omega⟩),bN,b6.size⟩;clear hl9;refine rd1 7 (fun K hK=>?_);go_simp;refine hK.out _ _ ?_ (fun hH=>?_)
     ·(try dsimp only)
      exact SC.o _ bN
     clear hK K;refine nrm ?_;refine Zw ?_ _;go_wp2_with fail;go_meet;exact HR
    have bA:zb wr (w5.alloc (.cells #[zI 0,zS] 183)):=b5.alloc b5.size _;have hsA:(w5.alloc (.cells #[zI 0,zS] 183)).heap.size=w5.heap.size+1:=(by simp);have hgs:wr.heap.size<=w5.heap.size:=b5.size;have hvsA:=hvs.oth (zE ((zB _ w5).alloc (zN _) (.cells #[zI 0,zS] 183)));go_simp;refine hK.out _ _ ?_ (fun hH=>?_)
    ·(try dsimp only)
     exact SC.o _ bA
    clear hK K;refine nrm ?_;refine rd1 5 (fun K hK=>?_);go_simp;go_at_call 163;refine(UPk.o _ _ (bA) (hvsA)).mono ?_;rintro e w6⟨A9,n9,c9,rfl,hn9,hl9,b6'⟩;have b6:=(bA).trans (b6'.mono (bA).size);refine hK.out _ _ ?_ (fun hH=>?_)
    ·(try dsimp only)
     exact SC.o _ b6
    clear hK K;refine nrm ?_;have hjs:∀j,(w5.alloc (.cells #[zI 0,zS] 183)).heap.size<=j->w5.heap.size<j/\wr.heap.size<=j:=fun j hj=>(by rw[hsA] at hj;omega);obtain⟨s1,s2,h1',h2',⟨y0,y1⟩,⟨ff0,ff1⟩,hq,hot⟩:=put2 ((b6'.block _ (by rw[hsA];omega)).trans (zW w5 _)) (zI S0) (.slice A9 n9 c9);have BS:=zH (Oth.below b6 hot hgs b6.size);have HR:Hid (EdX wr S0 (.pointer (some ⟨w5.heap.size,0,none⟩)) s2):=zH ⟨w5.heap.size,A9,n9,c9,rfl,hq,hn9,hl9.keep (fun j hj hlt=>hot.block j hlt (fun e=>by have e:=zO e;have hj:=hjs j hj;omega)) hot.size (fun j _ hj=>by have hj:=hjs j hj;exact⟨hj.2,by omega⟩),BS.o,hgs⟩;clear hq hot hl9;refine rd1 7 (fun K hK=>?_);go_simp;refine hK.out _ _ ?_ (fun hH=>?_)
    ·(try dsimp only)
     exact SC.o _ BS.o
    clear hK K;refine nrm ?_;refine Zw ?_ _;go_wp2_with fail;go_meet;exact HR
   have bA:zb wr (wr.drew.alloc (.cells #[zI 0,zS] 183)):=G0.alloc G0.size _;have hsA:(wr.drew.alloc (.cells #[zI 0,zS] 183)).heap.size=wr.heap.size+1:=(by simp);have hgs:wr.heap.size<=wr.heap.size:=zN _;go_simp;refine hK.out _ _ ?_ (fun hH=>?_)
   ·(try dsimp only)
    exact SC.o _ bA
   clear hK K;refine nrm ?_;refine rd1 4 (fun K hK=>?_);go_simp;go_at_call 150;refine(SDk.o _ (bA)).mono ?_;rintro e w5⟨⟨vs,rfl,hvs⟩,b5'⟩;have b5:=(bA).trans (b5'.mono (bA).size);refine hK.out _ _ ?_ (fun hH=>?_)
   ·(try dsimp only)
    exact SC.o _ b5
   clear hK K;refine nrm ?_;refine rd1 5 (fun K hK=>?_);go_simp;go_at_call 163;refine(UPk.o _ _ (b5) (hvs)).mono ?_;rintro e w6⟨A9,n9,c9,rfl,hn9,hl9,b6'⟩;have b6:=(b5).trans (b6'.mono (b5).size);refine hK.out _ _ ?_ (fun hH=>?_)
   ·(try dsimp only)
    exact SC.o _ b6
   clear hK K;refine nrm ?_;have hs5:=b5'.size;simp at hs5;have hjs:∀j,w5.heap.size<=j->wr.heap.size<j/\wr.heap.size<=j:=fun j hj=>(by omega);obtain⟨s1,s2,h1',h2',⟨y0,y1⟩,⟨ff0,ff1⟩,hq,hot⟩:=put2 ((b6'.block _ (by omega)).trans ((b5'.block wr.heap.size (by simp)).trans (zW wr _))) (zI S0) (.slice A9 n9 c9);have BS:=zH (Oth.below b6 hot hgs b6.size);have HR:Hid (EdX wr S0 (.pointer (some ⟨wr.heap.size,0,none⟩)) s2):=zH ⟨wr.heap.size,A9,n9,c9,rfl,hq,hn9,hl9.keep (fun j hj hlt=>hot.block j hlt (fun e=>by have e:=zO e;have hj:=hjs j hj;omega)) hot.size (fun j _ hj=>by have hj:=hjs j hj;exact⟨hj.2,by omega⟩),BS.o,hgs⟩;clear hq hot hl9;refine rd1 7 (fun K hK=>?_);go_simp;refine hK.out _ _ ?_ (fun hH=>?_)
   ·(try dsimp only)
    exact SC.o _ BS.o
   clear hK K;refine nrm ?_;refine Zw ?_ _;go_wp2_with fail;go_meet;exact HR
  obtain⟨ge,A9,n9,c9,rfl,hqg,hn9,hl9,bx,hge⟩:=hcut.o;clear hcut SC SDk UPk G0;obtain⟨y0,y1⟩:=cells2e hqg;have hSc:=HI.o.1.below HOK.o bx;have hSr:=upS_range ks t (sd fs k);rw[HS0.o] at hSr;have CALL:Hid (Calls Tryz.prog 164 #[zI (k:Int),zI S0,.slice A9 n9 c9,.pointer (some ⟨w4.heap.size,0,none⟩),.pointer (some ⟨wq.heap.size,0,none⟩)] wc (ReachAns ks fs ⟨w4.heap.size,g0,g1,g2,wq.heap.size,nn,Mb⟩ q w6 R' zs U v k S0 wc)):=zH (reach_any ks fs _ q w6 R' zs U v wc hSc HOK.o k S0 A9 n9 c9 hlt hnb hSr (fun _=>hl9.keep (fun _ _ _=>rfl) (zN _) (fun b _ hb=>HI.o.1.qnew HOK.o b hb.1)) (fun _=>by simp only;omega) (by have:=HI.o.2.2;omega));clear hqg hl9 bx hSc hSr;go_wp2_with fail;refine CALL.o.mono ?_;rintro e wd⟨rfl,R2,zs2,U2,v2,hS2,_,hd⟩;have HN:Hid (ChSt ks fs ⟨w4.heap.size,g0,g1,g2,wq.heap.size,nn,Mb⟩ q w6 R2 zs2 U2 v2 wd/\SInv ks fs t u must R2 zs2 (k+1) none/\zs2.length+U2<=2*nn):=zH ⟨hS2,HI.o.2.1.after_start (by rw[HNN.o];exact hlt) HS0.o HI.o.2.2 hd⟩;clear hS2 hd CALL y0 y1;go_wp2_with fail;go_roundw;case rel=>(repeat apply Exists.intro);exact⟨⟨k+1,R2,zs2,U2,v2,by omega,by go_num,HN⟩,rfl⟩
  case measure=>simp[intOf];omega
 obtain rfl:nn=k:=by omega
 obtain⟨wz,hwz⟩:∃wz,wz=wr:=⟨_,rfl⟩;subst hwz;have HI0:Hid (ChSt ks fs ⟨w4.heap.size,g0,g1,g2,wq.heap.size,nn,Mb⟩ q w6 R' zs U v wz/\SInv ks fs t u must R' zs nn none/\zs.length+U<=2*nn/\2*U+zs.length<=2*U+zs.length):=zH ⟨HI.o.1,HI.o.2.1,HI.o.2.2,zN _⟩;clear HI;go_wp2_with fail
 go_loopg [] (2*U+zs.length) (fun gk wr=>∃(R:Nat->Int->Bool)(zs:List (Nat × Int))(U:Nat)(v:Value),Hid (ChSt ks fs ⟨w4.heap.size,g0,g1,g2,wq.heap.size,nn,Mb⟩ q w6 R zs U v wr/\SInv ks fs t u must R zs nn none/\zs.length+U<=2*nn/\2*U+zs.length<=gk))
 case atStart=>exact⟨_,_,_,_,HI0⟩
 clear HI0;obtain⟨R3,zs3,U3,v3,HJ⟩:=hrel;cases zs3 with
 |nil =>
  obtain⟨Av,cv,rfl⟩:=HJ.o.1.row.shape;have x14:=(zC HJ.o.1.que 0:wr.cell? ⟨wq.heap.size,0,none⟩=_);simp at x14;have HZ:Hid (ChnAns ks fs Mb q w rr (.returned (.tuple #[zS,.bool false])) wr):=zH (by
   have h:=HJ.o.2.1;rw[<-HNN.o] at h;exact⟨⟨none,0,0,false,rfl,LkO.nil,by omega,by rw[<-HRR.o];exact⟨fun h2=>(by cases h2),fun h'=>absurd h' (h.no (by have:=HND.o;omega))⟩⟩,HJ.o.1.cache.keep (row:=none) ⟨rfl,rfl,rfl,zN _,fun _ _ _=>rfl⟩ (fun e=>by cases e) (fun _ _ _ e=>by cases e) (fun b _ hb=>hb.1),(TOT.o _ _ _ _ _ HJ.o.1).1⟩)
  clear HJ;go_wp2_with fail;refine Zb (results_tmp2 rfl _ _ _) ?_;exact HZ.o
 |cons z zs3 =>
  obtain⟨i,s⟩:=z;obtain⟨gq,oq,cap,Aq,rfl,hsl,hpop⟩:=HJ.o.1.pops HOK.o;obtain⟨⟨c14,_,di,ds⟩,_⟩:=hpop wr (zB _ _);simp only at c14 di ds;have HRi:Hid (R3 i s=true):=zH (HJ.o.2.1.queue (i,s) (List.mem_cons_self ..));have hrch:=HJ.o.2.1.sound i s HRi.o;have hin:i<nn:=by rw[<-HNN.o];exact hrch.lt
  have hs12:=hrch.range;have HLEN:Hid (zs3.length+1+U3<=2*nn/\2*U3+(zs3.length+1)<=gk):=zH ⟨HJ.o.2.2.1,HJ.o.2.2.2⟩;have HSI:Hid (SInv ks fs t u must R3 ((i,s) :: zs3) nn none):=zH HJ.o.2.1;have HSEQ:Hid (zs3.length=zs3.length):=zH rfl;generalize hzl:zs3.length=zl at c14 hsl hpop;have HZL:=zH hzl;clear hzl;have hln0:(0:Int)<(zl:Int)+1:=by omega
  have hln1:(0:Int)<((zl+1:Nat):Int):=by omega
  have hln2:0<zl+1:=by omega
  have HPOP:=zH hpop;clear hrch HJ hpop;go_wp2_with fail;go_quiet (fail);clear c14 di ds;obtain⟨w8,hw8⟩:∃w8,wr.drewN nq=w8:=⟨_,rfl⟩;rw[hw8];obtain⟨⟨x14,f14,_,_⟩,HP7⟩:=HPOP.o w8 (by rw[<-hw8];exact⟨rfl,rfl,rfl,zN _,fun _ _=>rfl⟩);obtain⟨w7,hset⟩:∃w7,w8.setCell ⟨wq.heap.size,0,none⟩ (.slice Aq zl cap)=w7:=⟨_,rfl⟩;try dsimp only at x14
  try dsimp only at f14
  try dsimp only at HP7
  rw[hset] at HP7;clear hw8 HPOP;go_upto_region 22 with fail;clear hset x14 f14 hsl hln0 hln1 hln2;obtain⟨hot7,hql7,hqr7,hsz7⟩:=TOT.o _ _ _ _ _ HP7.o;have b0:=(zC HP7.o.best 1:w7.cell? ⟨w4.heap.size,1,none⟩=_);have b1:=(zC HP7.o.best 2:w7.cell? ⟨w4.heap.size,2,none⟩=_);simp at b0 b1;have hi0:=zP i;have hi1:(i:Int)<(nn:Int):=by omega
  have HS12:=zH hs12;go_cut [20] (fun x wx=>Hid (∃Al m cl',x=.slice Al m cl'/\wx=w7/\LkO (Spot.Q ⟨w4.heap.size,g0,g1,g2,wq.heap.size,nn,Mb⟩ q (.slice Aq zl cap)) w7 Al m cl'/\m<=2*nn-U3));case first =>
   rcases hs12 with rfl | rfl
   ·obtain⟨Al,m,cl',d0,d1,_,_,d2⟩:=HP7.o.row1.cells (i:=i) hin;have HR:=zH (d2 HRi.o);clear d2;try dsimp only at d1
    go_wp2_with fail;go_meet;exact zH ⟨Al,m,cl',rfl,rfl,HR.o⟩
   obtain⟨Al,m,cl',d0,d1,_,_,d2⟩:=HP7.o.row2.cells (i:=i) hin;have HR:=zH (d2 HRi.o);clear d2;try dsimp only at d1
   go_wp2_with fail;go_meet;exact zH ⟨Al,m,cl',rfl,rfl,HR.o⟩
  obtain⟨Al,m,cl',rfl,hwc,hla,hma⟩:=hcut.o;subst hwc;have HLA:=zJ hla hma;clear hcut hla hma b0 b1 HS12;obtain⟨w7,hw7⟩:∃w7,w7=wc:=⟨_,rfl⟩;subst hw7;obtain⟨S0,hS0⟩:∃S0,upS ks (sd fs i) u=S0:=⟨_,rfl⟩;have HS0:=zH hS0;have hi2:i<2*fs.length:=by rw[HNN.o];exact hin
  have hlw:w1.heap.size<w7.heap.size:=by have:=H26.o;omega
  have SC:Hid (∀W,zb w7 W->zc W w1.heap.size 0 (zI kd')/\zc W w1.heap.size 1 (S nm')/\zc W w1.heap.size 2 (zI ps')/\zc W w1.heap.size 3 (.slice A' ys.length c')):=zH (fun W hw=>cells4t ((hw.block _ hlw).trans hqr7));have SDk:Hid (∀W,zb w7 W->Calls Tryz.prog 150 #[.pointer (some ⟨Bx,0,none⟩),zI (i:Int)] W (SideAns (fun b=>b≠Mb) W (sd fs i))):=zH (fun W hw=>SD.o W i (hot7.trans (zE hw)) hi2);have UPk:Hid (∀W vs,zb w7 W->TreeVP (fun b=>b≠Mb) W (sd fs i) vs->Calls Tryz.prog 163 #[.pointer (some ⟨Bx,0,none⟩),vs,.agg (zT kd' nm' ps' A' ys c')] W (fun e W'=>∃A n c,e=.returned (.agg #[zI S0,.slice A n c])/\n<=1/\LkO (fun b=>W.heap.size<=b) W' A n c/\zb W W')):=zH (fun W vs hw hvs=>by
   have hO:=hot7.trans (zE hw);have h:=UP.o W (sd fs i) u vs _ hO (SDZ.o i) HTU.o.2 hvs (HV'.o.oth hO);rw[HS0.o] at h;exact h)
  have G0:zb w7 w7.drew:=(zB _ _).drew;clear hot7 hql7 hqr7 hsz7 hS0;go_upto_region 23 with fail;go_cut [21] (fun s wx=>Hid (EdX w7 S0 s wx));case first =>
   refine wp_region_held_drew (S:=fun W=>zc W w1.heap.size 0 (zI kd')/\zc W w1.heap.size 1 (S nm')/\zc W w1.heap.size 2 (zI ps')/\zc W w1.heap.size 3 (.slice A' ys.length c')) (by kernel_rfl) ?_ (fun hH=>?_)
   ·exact SC.o _ G0
   refine tk 0 ?_;refine tk 1 ?_;refine tk 2 ?_;refine tk 4 ?_;refine rd2 3 6 (fun K hK=>?_) (fun K hK=>?_)
   ·go_simp;go_at_call 150;refine(SDk.o _ (G0)).mono ?_;rintro e w5⟨⟨vs,rfl,hvs⟩,b5'⟩;have b5:=(G0).trans (b5'.mono (G0).size);refine hK.out _ _ ?_ (fun hH=>?_)
    ·(try dsimp only)
     exact SC.o _ b5
    clear hK K;refine nrm ?_;refine rd2 5 6 (fun K hK=>?_) (fun K hK=>?_)
    ·go_simp;go_at_call 163;refine(UPk.o _ _ (b5) (hvs)).mono ?_;rintro e w6⟨A9,n9,c9,rfl,hn9,hl9,b6'⟩;have b6:=(b5).trans (b6'.mono (b5).size);refine hK.out _ _ ?_ (fun hH=>?_)
     ·(try dsimp only)
      exact SC.o _ b6
     clear hK K;refine nrm ?_;have bA:zb w7 (w6.alloc (.cells #[zI 0,zS] 183)):=b6.alloc b6.size _;have bN:zb w7 (w6.alloc (.cells #[zI S0,.slice A9 n9 c9] 183)):=b6.alloc b6.size _;refine rd1 6 (fun K hK=>?_);go_simp;refine hK.out _ _ ?_ (fun hH=>?_)
     ·(try dsimp only)
      exact SC.o _ bA
     clear hK K;refine nrm ?_;have HR:Hid (EdX w7 S0 (.pointer (some ⟨w6.heap.size,0,none⟩)) (w6.alloc (.cells #[zI S0,.slice A9 n9 c9] 183))):=zH ⟨w6.heap.size,A9,n9,c9,rfl,zW _ _,hn9,hl9.keep (fun j _ hlt=>zA _ _ _ hlt) (by simp) (fun j hlt hj=>⟨zR b5.size hj,by omega⟩),bN,b6.size⟩;clear hl9;refine rd1 7 (fun K hK=>?_);go_simp;refine hK.out _ _ ?_ (fun hH=>?_)
     ·(try dsimp only)
      exact SC.o _ bN
     clear hK K;refine nrm ?_;refine Zw ?_ _;go_wp2_with fail;go_meet;exact HR
    have bA:zb w7 (w5.alloc (.cells #[zI 0,zS] 183)):=b5.alloc b5.size _;have hsA:(w5.alloc (.cells #[zI 0,zS] 183)).heap.size=w5.heap.size+1:=(by simp);have hgs:w7.heap.size<=w5.heap.size:=b5.size;have hvsA:=hvs.oth (zE ((zB _ w5).alloc (zN _) (.cells #[zI 0,zS] 183)));go_simp;refine hK.out _ _ ?_ (fun hH=>?_)
    ·(try dsimp only)
     exact SC.o _ bA
    clear hK K;refine nrm ?_;refine rd1 5 (fun K hK=>?_);go_simp;go_at_call 163;refine(UPk.o _ _ (bA) (hvsA)).mono ?_;rintro e w6⟨A9,n9,c9,rfl,hn9,hl9,b6'⟩;have b6:=(bA).trans (b6'.mono (bA).size);refine hK.out _ _ ?_ (fun hH=>?_)
    ·(try dsimp only)
     exact SC.o _ b6
    clear hK K;refine nrm ?_;have hjs:∀j,(w5.alloc (.cells #[zI 0,zS] 183)).heap.size<=j->w5.heap.size<j/\w7.heap.size<=j:=fun j hj=>(by rw[hsA] at hj;omega);obtain⟨s1,s2,h1',h2',⟨y0,y1⟩,⟨ff0,ff1⟩,hq,hot⟩:=put2 ((b6'.block _ (by rw[hsA];omega)).trans (zW w5 _)) (zI S0) (.slice A9 n9 c9);have BS:=zH (Oth.below b6 hot hgs b6.size);have HR:Hid (EdX w7 S0 (.pointer (some ⟨w5.heap.size,0,none⟩)) s2):=zH ⟨w5.heap.size,A9,n9,c9,rfl,hq,hn9,hl9.keep (fun j hj hlt=>hot.block j hlt (fun e=>by have e:=zO e;have hj:=hjs j hj;omega)) hot.size (fun j _ hj=>by have hj:=hjs j hj;exact⟨hj.2,by omega⟩),BS.o,hgs⟩;clear hq hot hl9;refine rd1 7 (fun K hK=>?_);go_simp;refine hK.out _ _ ?_ (fun hH=>?_)
    ·(try dsimp only)
     exact SC.o _ BS.o
    clear hK K;refine nrm ?_;refine Zw ?_ _;go_wp2_with fail;go_meet;exact HR
   have bA:zb w7 (w7.drew.alloc (.cells #[zI 0,zS] 183)):=G0.alloc G0.size _;have hsA:(w7.drew.alloc (.cells #[zI 0,zS] 183)).heap.size=w7.heap.size+1:=(by simp);have hgs:w7.heap.size<=w7.heap.size:=zN _;go_simp;refine hK.out _ _ ?_ (fun hH=>?_)
   ·(try dsimp only)
    exact SC.o _ bA
   clear hK K;refine nrm ?_;refine rd1 3 (fun K hK=>?_);go_simp;go_at_call 150;refine(SDk.o _ (bA)).mono ?_;rintro e w5⟨⟨vs,rfl,hvs⟩,b5'⟩;have b5:=(bA).trans (b5'.mono (bA).size);refine hK.out _ _ ?_ (fun hH=>?_)
   ·(try dsimp only)
    exact SC.o _ b5
   clear hK K;refine nrm ?_;refine rd1 5 (fun K hK=>?_);go_simp;go_at_call 163;refine(UPk.o _ _ (b5) (hvs)).mono ?_;rintro e w6⟨A9,n9,c9,rfl,hn9,hl9,b6'⟩;have b6:=(b5).trans (b6'.mono (b5).size);refine hK.out _ _ ?_ (fun hH=>?_)
   ·(try dsimp only)
    exact SC.o _ b6
   clear hK K;refine nrm ?_;have hs5:=b5'.size;simp at hs5;have hjs:∀j,w5.heap.size<=j->w7.heap.size<j/\w7.heap.size<=j:=fun j hj=>(by omega);obtain⟨s1,s2,h1',h2',⟨y0,y1⟩,⟨ff0,ff1⟩,hq,hot⟩:=put2 ((b6'.block _ (by omega)).trans ((b5'.block w7.heap.size (by simp)).trans (zW w7 _))) (zI S0) (.slice A9 n9 c9);have BS:=zH (Oth.below b6 hot hgs b6.size);have HR:Hid (EdX w7 S0 (.pointer (some ⟨w7.heap.size,0,none⟩)) s2):=zH ⟨w7.heap.size,A9,n9,c9,rfl,hq,hn9,hl9.keep (fun j hj hlt=>hot.block j hlt (fun e=>by have e:=zO e;have hj:=hjs j hj;omega)) hot.size (fun j _ hj=>by have hj:=hjs j hj;exact⟨hj.2,by omega⟩),BS.o,hgs⟩;clear hq hot hl9;refine rd1 7 (fun K hK=>?_);go_simp;refine hK.out _ _ ?_ (fun hH=>?_)
   ·(try dsimp only)
    exact SC.o _ BS.o
   clear hK K;refine nrm ?_;refine Zw ?_ _;go_wp2_with fail;go_meet;exact HR
  obtain⟨ge,A9,n9,c9,rfl,hqg,hn9,hl9,bx,hge⟩:=hcut.o;clear hcut SC SDk UPk G0;obtain⟨y0,y1⟩:=cells2e hqg;have HS9:=zH (HP7.o.below HOK.o bx);have hLm:=HLA.o.2;have HLB:Hid (LkO (Spot.Q ⟨w4.heap.size,g0,g1,g2,wq.heap.size,nn,Mb⟩ q (.slice Aq zl cap)) wc Al m cl'):=zH (HLA.o.1.kpt (Kpt.of_below bx) (fun _ _ h=>h));have HL9:Hid (LkO (Spot.Q ⟨w4.heap.size,g0,g1,g2,wq.heap.size,nn,Mb⟩ q (.slice Aq zl cap)) wc A9 n9 c9):=zH (hl9.keep (fun _ _ _=>rfl) (zN _) (fun b _ hb=>HP7.o.qnew HOK.o b hb.1));obtain⟨mx,hmx⟩:∃mx,max S0 s=mx:=⟨_,rfl⟩;have HMX:Hid (mx=max S0 s):=zH hmx.symm;clear hqg hl9 HLA bx HP7;go_upto_region 24 with fail;go_cut [103] (fun x wx=>∃bb:Bool,x=.bool bb/\Hid (bb=true↔0<S0/\must<=mx)/\wx=wc);case first =>
   by_cases h0:0<S0
   ·have e1:decide (S0>0)=true:=Zt h0;have e2:decide (0<S0)=true:=Zt h0;by_cases h1:must<=mx
    ·have e3:decide (mx≥must)=true:=Zt h1;have e4:decide (must<=mx)=true:=Zt h1;go_wp2_with fail;go_meet;exact⟨true,rfl,zH ⟨fun _=>⟨h0,h1⟩,fun _=>rfl⟩,rfl⟩
    have e3:decide (mx≥must)=false:=Zu h1;have e4:decide (must<=mx)=false:=Zu h1;go_wp2_with fail;go_meet;exact⟨false,rfl,zH ⟨fun h=>(by cases h),fun h=>by exfalso;omega⟩,rfl⟩
   have e1:decide (S0>0)=false:=Zu h0;have e2:decide (0<S0)=false:=Zu h0;go_wp2_with fail;go_meet;exact⟨false,rfl,zH ⟨fun h=>(by cases h),fun h=>by exfalso;omega⟩,rfl⟩
  obtain⟨bb,rfl,HBB,hwc2⟩:=hcut;subst hwc2;clear hmx;cases bb with
  |true =>
   have hz:=HBB.o.1 rfl;obtain⟨wd,hwd⟩:∃wd,wc.alloc (.cells #[.slice Al m cl',.slice A9 n9 c9] 37)=wd:=⟨_,rfl⟩;have bd:=zG hwd;have qd:=zQ hwd;have HSd:=zH (HS9.o.below HOK.o bd);have CAT:=zH (cat2_any (Spot.Q ⟨w4.heap.size,g0,g1,g2,wq.heap.size,nn,Mb⟩ q (.slice Aq zl cap)) wc.heap.size 37 Al A9 m n9 cl' c9 wd qd (HLB.o.kpt (Kpt.of_below bd) (fun _ _ h=>h)) (HL9.o.kpt (Kpt.of_below bd) (fun _ _ h=>h)) (by omega) (HSd.o.qnew HOK.o));have HZZ:=zH hz;clear bd qd hz HS9 HLB HL9;go_wp2_with fail;refine CAT.o.mono ?_;rintro e we⟨⟨Af,cf,rfl,hlf⟩,bf⟩;have HSe:=HSd.o.below HOK.o bf;have HZ:Hid (ChnAns ks fs Mb q w rr (.returned (.tuple #[.slice Af (m+n9) cf,.bool true])) we):=zH ⟨⟨Af,m+n9,cf,true,rfl,hlf.keep (fun _ _ _=>rfl) (zN _) (fun b _ hb=>hb.1),by have:=HNN.o;omega,by rw[<-HRR.o];exact⟨fun _=>.inr ⟨i,s,HSI.o.sound i s HRi.o,by rw[HS0.o];exact HZZ.o.1,by rw[HS0.o,<-HMX.o];exact HZZ.o.2⟩,fun _=>rfl⟩⟩,HSe.cache.keep (row:=none) ⟨rfl,rfl,rfl,zN _,fun _ _ _=>rfl⟩ (fun e=>by cases e) (fun _ _ _ e=>by cases e) (fun b _ hb=>hb.1),(TOT.o _ _ _ _ _ HSe).1⟩;clear HSe hlf bf CAT hwd y0 y1;go_wp2_with fail;refine Zb (results_tmp2 rfl _ _ _) ?_;exact HZ.o
  |false =>
   have hz:¬(0<S0/\must<=mx):=fun h=>(by have:=HBB.o.2 h;cases this);have HSP:Hid (SInv ks fs t u must R3 zs3 nn (some (i,s,0))):=zH (HSI.o.pop (fun h=>hz (by rw[HS0.o] at h;rw[HMX.o];exact h)));obtain⟨we,hwe⟩:∃we,we=wc:=⟨_,rfl⟩;subst hwe;have I0:Hid (ChSt ks fs ⟨w4.heap.size,g0,g1,g2,wq.heap.size,nn,Mb⟩ q w6 R3 zs3 U3 (.slice Aq zl cap) we/\SInv ks fs t u must R3 zs3 nn (some (i,s,0))/\zs3.length+U3<=2*nn/\2*U3+zs3.length<gk/\U3<=U3/\LkO (Spot.Q ⟨w4.heap.size,g0,g1,g2,wq.heap.size,nn,Mb⟩ q (.slice Aq zl cap)) we Al m cl'):=zH ⟨HS9.o,HSP.o,by have:=HLEN.o;omega,by have:=HLEN.o;omega,zN _,HLB.o⟩;clear hz HS9 HLB HL9 HSP HSI HRi HLEN HSEQ HS0 HMX hge y0 y1;go_wp2_with fail;go_loopw [110] (fun x wr=>∃(k:Nat)(R:Nat->Int->Bool)(zs:List (Nat × Int))(U:Nat)(v:Value),k<=nn/\x=zI (k:Int)/\Hid (ChSt ks fs ⟨w4.heap.size,g0,g1,g2,wq.heap.size,nn,Mb⟩ q w6 R zs U v wr/\SInv ks fs t u must R zs nn (some (i,s,k))/\zs.length+U<=2*nn/\2*U+zs.length<gk/\U<=U3/\LkO (Spot.Q ⟨w4.heap.size,g0,g1,g2,wq.heap.size,nn,Mb⟩ q v) wr Al m cl')) (fun x _=>nn-(intOf x).toNat);case atStart=>exact⟨0,_,_,_,_,by omega,rfl,I0⟩
   clear I0;obtain⟨k,R4,zs4,U4,v4,hk,rfl,HK⟩:=hrel;by_cases hlt:k<nn
   ·have hk0:=zP k;have hk1:(k:Int)<(nn:Int):=(by omega);by_cases hki:k=i
    ·have hdi:decide ((k:Int)=(i:Int))=true:=Zt (by omega);have hdi1:((k:Int) == (i:Int))=true:=(by simp;omega);have HN:Hid (ChSt ks fs ⟨w4.heap.size,g0,g1,g2,wq.heap.size,nn,Mb⟩ q w6 R4 zs4 U4 v4 wr/\SInv ks fs t u must R4 zs4 nn (some (i,s,k+1))/\zs4.length+U4<=2*nn/\2*U4+zs4.length<gk/\U4<=U3/\LkO (Spot.Q ⟨w4.heap.size,g0,g1,g2,wq.heap.size,nn,Mb⟩ q v4) wr Al m cl'):=zH ⟨HK.o.1,HK.o.2.1.skip (.inl hki),HK.o.2.2⟩;clear HK hki;go_wp2_with fail;go_roundw;case rel=>first | exact⟨k+1,R4,zs4,U4,v4,by omega,by go_num,HN⟩ | ((repeat apply Exists.intro);exact⟨⟨k+1,R4,zs4,U4,v4,by omega,by go_num,HN⟩,rfl⟩)
     case measure=>simp[intOf];omega
    have hdi:decide ((k:Int)=(i:Int))=false:=Zu (by omega);have hdi1:((k:Int) == (i:Int))=false:=(by simp;omega);have hk2:k<2*fs.length:=(by rw[HNN.o];exact hlt);obtain⟨T0,hT0⟩:∃T0,stp ks fs i k=T0:=⟨_,rfl⟩;have hT0r:=stp_range ks fs i k;have CALL:=zH (ST.o wr i k (Spot.Q ⟨w4.heap.size,g0,g1,g2,wq.heap.size,nn,Mb⟩ q v4) (TOT.o _ _ _ _ _ HK.o.1).1 HK.o.1.cache (HK.o.1.qnew HOK.o) (fun b hb=>HQM.o b hb.1) hi2 hk2 hki);rw[hT0] at CALL hT0r;have HT0:=zH hT0;have HKI:=zH hki;clear hT0 hki;go_wp2_with fail;refine CALL.o.mono ?_;rintro e wa⟨⟨va,rfl,A5,n5,c5,rfl,hn5,hl5⟩,hCa,hoa⟩;obtain⟨wb,hwb⟩:∃wb,wa.alloc (.cells #[zI T0,.slice A5 n5 c5] 183)=wb:=⟨_,rfl⟩;have bb:=zG hwb;have qb:=zQ hwb;have HWB:=zH hwb;have hSa:=HK.o.1.oth HOK.o hoa hCa;have HSb:=zH (hSa.below HOK.o bb);have lwa:wa.heap.size<wb.heap.size:=zL qb;have HQA:Hid (Spot.Q ⟨w4.heap.size,g0,g1,g2,wq.heap.size,nn,Mb⟩ q v4 wa.heap.size):=zH (hSa.qnew HOK.o _ (zN _));have HLK:Hid (LkO (Spot.Q ⟨w4.heap.size,g0,g1,g2,wq.heap.size,nn,Mb⟩ q v4) wb Al m cl'):=zH ((HK.o.2.2.2.2.2.kpt (Kpt.of_oth hoa (fun b hb=>HQM.o b hb.1)) (fun _ _ h=>h)).kpt (Kpt.of_below bb) (fun _ _ h=>h));have HL5:Hid (LkO (Spot.Q ⟨w4.heap.size,g0,g1,g2,wq.heap.size,nn,Mb⟩ q v4) wb A5 n5 c5):=zH (hl5.kpt (Kpt.of_below bb) (fun _ _ h=>h));have HR4:Hid (SInv ks fs t u must R4 zs4 nn (some (i,s,k))/\zs4.length+U4<=2*nn/\2*U4+zs4.length<gk/\U4<=U3):=zH ⟨HK.o.2.1,HK.o.2.2.1,HK.o.2.2.2.1,HK.o.2.2.2.2.1⟩;have QB:=zH qb;obtain⟨y0,y1⟩:=cells2e qb;clear hwb bb hSa hl5 hCa hoa CALL HK qb;go_upto_region 31 with fail;rw[HWB.o];clear HWB;by_cases h0:0<T0
    ·have hd3:decide (T0>0)=true:=Zt h0;have hd4:decide (0<T0)=true:=Zt h0;obtain⟨mx2,hmx2⟩:∃mx2,max T0 s=mx2:=⟨_,rfl⟩;have HMX2:=zH hmx2.symm;have HT3:=zH h0;have G0:zb wb wb.drew:=(zB _ _).drew;have bB:zb wb (wb.drew.alloc (.cells #[.slice Al m cl',.slice A5 n5 c5] 37)):=G0.alloc G0.size _;have HSB:=zH (HSb.o.below HOK.o bB);have CAT:=zH (cat2_any (Spot.Q ⟨w4.heap.size,g0,g1,g2,wq.heap.size,nn,Mb⟩ q v4) wb.heap.size 37 Al A5 m n5 cl' c5 _ (zW wb.drew (.cells #[.slice Al m cl',.slice A5 n5 c5] 37)) (HLK.o.kpt (Kpt.of_below bB) (fun _ _ h=>h)) (HL5.o.kpt (Kpt.of_below bB) (fun _ _ h=>h)) (by omega) (HSB.o.qnew HOK.o));have SE:Hid (∀W,zb wb W->zc W wa.heap.size 0 (zI T0)/\zc W wa.heap.size 1 (.slice A5 n5 c5)):=zH (fun W hw=>cells2e ((hw.block _ lwa).trans QB.o));have SEB:Hid (∀W W',zb wb W->Kpt (Spot.Q ⟨w4.heap.size,g0,g1,g2,wq.heap.size,nn,Mb⟩ q v4) W W'->zc W' wa.heap.size 0 (zI T0)/\zc W' wa.heap.size 1 (.slice A5 n5 c5)):=zH (fun W W' hw hk=>cells2e ((hk.block _ (Zl lwa hw.size) HQA.o).trans ((hw.block _ lwa).trans QB.o)));have RC:Hid (∀W A c,zb wb W->LkO (Spot.Q ⟨w4.heap.size,g0,g1,g2,wq.heap.size,nn,Mb⟩ q v4) W A (m+n5) c->Calls Tryz.prog 164 #[zI (k:Int),zI mx2,.slice A (m+n5) c,.pointer (some ⟨w4.heap.size,0,none⟩),.pointer (some ⟨wq.heap.size,0,none⟩)] W (ReachAns ks fs ⟨w4.heap.size,g0,g1,g2,wq.heap.size,nn,Mb⟩ q w6 R4 zs4 U4 v4 k mx2 W)):=zH (fun W A c hw hl=>reach_any ks fs _ q w6 R4 zs4 U4 v4 W (HSb.o.below HOK.o hw) HOK.o k mx2 A (m+n5) c hlt hnb (by omega) (fun _=>hl) (fun _=>by have:=HR4.o;simp only;omega) (by have:=HR4.o;omega));clear HSB;go_upto_region 32 with fail;refine wp_region_held_drew (S:=fun W=>zc W wa.heap.size 0 (zI T0)/\zc W wa.heap.size 1 (.slice A5 n5 c5)) (by kernel_rfl) ?_ (fun hH=>?_)
     ·exact SE.o _ G0
     refine tk 0 ?_;refine tk 1 ?_;refine tk 2 ?_;refine tk 3 ?_;refine tk 4 ?_;refine tk 5 ?_;refine tk 6 ?_;refine tk 7 ?_;refine tk 8 ?_;refine rd1 9 (fun K hK=>?_);go_simp;refine hK.out _ _ ?_ (fun hH=>?_)
     ·(try dsimp only)
      exact SE.o _ bB
     clear hK K;refine nrm ?_;refine rd1 10 (fun K hK=>?_);go_simp;go_at_call 165;refine CAT.o.mono ?_;rintro e wf⟨⟨Af,cf,rfl,hlf⟩,bf'⟩;have bf:=bB.trans (bf'.mono bB.size);have RCH:=zH (RC.o wf Af cf bf hlf);refine hK.out _ _ ?_ (fun hH=>?_)
     ·(try dsimp only)
      exact SE.o _ bf
     clear hK K;refine nrm ?_;refine rd1 11 (fun K hK=>?_);go_simp;go_at_call 164;refine RCH.o.mono ?_;rintro e wh⟨rfl,R5,zs5,U5,v5,hS5,⟨hk5,hQ5⟩,hd5⟩;have hlk5:=(HLK.o.kpt (Kpt.of_below bf) (fun _ _ h=>h)).kpt hk5 hQ5;have HN:Hid (ChSt ks fs ⟨w4.heap.size,g0,g1,g2,wq.heap.size,nn,Mb⟩ q w6 R5 zs5 U5 v5 wh/\SInv ks fs t u must R5 zs5 nn (some (i,s,k+1))/\zs5.length+U5<=2*nn/\2*U5+zs5.length<gk/\U5<=U3/\LkO (Spot.Q ⟨w4.heap.size,g0,g1,g2,wq.heap.size,nn,Mb⟩ q v5) wh Al m cl'):=zH (by
      obtain⟨r1,r2,r3,r4⟩:=HR4.o;obtain⟨e1,e2,e3⟩:=r1.after_step hk2 HKI.o HT0.o HT3.o HMX2.o r2 hd5;refine⟨hS5,e1,e2,by omega,?_,hlk5⟩;rcases hd5 with⟨_,_,_,_,h⟩ | ⟨_,_,_,h⟩ <;> omega)
     clear hS5 hQ5 hd5 hlk5;refine hK.out _ _ ?_ (fun hH=>?_)
     ·(try dsimp only)
      exact SEB.o _ _ bf hk5
     clear hK K;refine nrm ?_;clear hk5;refine Zw ?_ _;go_wp2_with fail;go_roundw;case rel=>first | exact⟨k+1,R5,zs5,U5,v5,by omega,by go_num,HN⟩ | ((repeat apply Exists.intro);exact⟨⟨k+1,R5,zs5,U5,v5,by omega,by go_num,HN⟩,rfl⟩)
     case measure=>simp[intOf];omega
    have hd3:decide (T0>0)=false:=Zu h0;have hd4:decide (0<T0)=false:=Zu h0;have HN:Hid (ChSt ks fs ⟨w4.heap.size,g0,g1,g2,wq.heap.size,nn,Mb⟩ q w6 R4 zs4 U4 v4 wb/\SInv ks fs t u must R4 zs4 nn (some (i,s,k+1))/\zs4.length+U4<=2*nn/\2*U4+zs4.length<gk/\U4<=U3/\LkO (Spot.Q ⟨w4.heap.size,g0,g1,g2,wq.heap.size,nn,Mb⟩ q v4) wb Al m cl'):=zH ⟨HSb.o,HR4.o.1.skip (.inr (by rw[HT0.o];exact h0)),HR4.o.2.1,HR4.o.2.2.1,HR4.o.2.2.2,HLK.o⟩;go_wp2_with fail;go_roundw;case rel=>first | exact⟨k+1,R4,zs4,U4,v4,by omega,by go_num,HN⟩ | ((repeat apply Exists.intro);exact⟨⟨k+1,R4,zs4,U4,v4,by omega,by go_num,HN⟩,rfl⟩)
    case measure=>simp[intOf];omega
   obtain rfl:nn=k:=(by omega);have HN:Hid (ChSt ks fs ⟨w4.heap.size,g0,g1,g2,wq.heap.size,nn,Mb⟩ q w6 R4 zs4 U4 v4 wr/\SInv ks fs t u must R4 zs4 nn none/\zs4.length+U4<=2*nn/\2*U4+zs4.length<=2*U4+zs4.length):=zH ⟨HK.o.1,(by have h:=HK.o.2.1;rw[<-HNN.o] at h ⊢;exact h.shut),HK.o.2.2.1,zN _⟩;have HMS:Hid (2*U4+zs4.length<gk):=zH HK.o.2.2.2.1;clear HK;go_wp2_with fail
   go_roundg (2*U4+zs4.length)
   case rel=>exact⟨R4,zs4,U4,v4,HN⟩
   case measure=>exact HMS.o
theorem treesP_at{q:Nat→Prop}{w:World}{b:Nat}:∀(ts:List Raw)(o i:Nat)(h:i<ts.length),TreesP q w b ts o→∃v0 v1 v2 v3,w.cell? ⟨b,o+i*4,none⟩=some v0∧w.cell? ⟨b,o+i*4+1,none⟩=some v1∧w.cell? ⟨b,o+i*4+2,none⟩=some v2∧w.cell? ⟨b,o+i*4+3,none⟩=some v3∧TreeP q w ts[i] v0 v1 v2 v3
 |[],_,_,h,_=>by cases h
 |p :: r,o,i,hi,h=>by
  rw[TreesP] at h;cases i with
  |zero=>simpa using h.1
  |succ i =>
   have:=treesP_at r (o+4) i (by simpa using hi) h.2;rw[show o+(i+1)*4=o+4+i*4 by omega];exact this
theorem treesAtP_at{q:Nat→Prop}{w:World}{A:Option Addr}{ts:List Raw}(h:TreesAtP q w A ts){i:Nat}(hi:i<ts.length) :
  ∃b o k n p us B c,A=some ⟨b,o,none⟩∧b<w.heap.size∧w.cell? ⟨b,o+i*4,none⟩=some (.int .i64 k)∧w.cell? ⟨b,o+i*4+1,none⟩=some (S n)∧w.cell? ⟨b,o+i*4+2,none⟩=some (.int .i64 p)∧w.cell? ⟨b,o+i*4+3,none⟩=some (.slice B (List.length us) c)∧TreeVP q w ts[i] (.agg #[.int .i64 k,S n,.int .i64 p,.slice B (List.length us) c])∧(us:List Raw)=us:=by
 obtain⟨b,o,hA,hlt,hqb,hts⟩:=h (by intro h0;rw[h0] at hi;simp at hi);obtain⟨v0,v1,v2,v3,h0,h1,h2,h3,hP⟩:=treesP_at ts o i hi hts;cases ht:ts[i] with
 |node k n p us =>
  have hP':=hP;rw[ht,TreeP] at hP;obtain⟨rfl,rfl,_,rfl,B,c,rfl,_⟩:=hP;exact⟨b,o,k,n,p,us,B,c,hA,hlt,h0,h1,h2,h3,⟨_,_,_,_,rfl,by rw[←ht];exact hP'⟩,rfl⟩
def TwoT(w2:World)(k1 p1 k2 p2:Int)(n1 n2:List UInt8)(x y c1 c2:Nat)(B B':Option Addr)(a b:Value)(wx:World):Prop:=∃ga gb,a=.pointer (some ⟨ga,0,none⟩)∧b=.pointer (some ⟨gb,0,none⟩)∧(w2.heap.size≤ga∧w2.heap.size≤gb)∧Below w2.heap.size w2 wx ∧
 wx.heap[ga]?=some (.cells #[.int .i64 k1,S n1,.int .i64 p1,.slice B x c1] 51 (0,0))∧wx.heap[gb]?=some (.cells #[.int .i64 k2,S n2,.int .i64 p2,.slice B' y c2] 51 (0,0))
theorem cells4v{W:World}{g:Nat}{v0 v1 v2 v3:Value}{t:TypeId}(h:W.heap[g]?=some (.cells #[v0,v1,v2,v3] t (0,0))):W.cell? ⟨g,0,none⟩=some v0∧W.cell? ⟨g,1,none⟩=some v1∧W.cell? ⟨g,2,none⟩=some v2∧W.cell? ⟨g,3,none⟩=some v3 :=
 ⟨zC h 0,zC h 1,zC h 2,zC h 3⟩
theorem pf_chain{q:Nat→Prop}{w:World}{A A2:Option Addr}{n c n2 c2:Nat}(h:LkO q w A n c)(hn:n≤5000)(h2:LkO q w A2 n2 c2)(hn2:n2≤5000):PfP q w (.node []) (.int .i64 0) (.slice none 0 0) (.slice A n c) (.slice A2 n2 c2):=by
 rw[PfP];exact⟨⟨0,rfl⟩,⟨none,0,rfl,zN _,fun h=>absurd rfl h⟩,⟨A,n,c,rfl,hn,h⟩,⟨A2,n2,c2,rfl,hn2,h2⟩⟩
theorem oArgP_any(q:Nat->Prop)(Bx Mb i j:Nat)(F A0 L R:Option Addr)(f0 c0 cl cr:Nat)(fs:List Fact)(ks:List Int)(ts us:List Raw)(rel:Int)(r:Prop)(w:World)(hks:ks.length<=1000000)(hfl:fs.length<=400)(hfz:∀f∈fs,f.l.size<=1000/\f.r.size<=1000)
  (hP:PvO w Bx Mb F A0 L R f0 c0 cl cr fs ks ts us) (hC:Cache ks fs Mb q w) (hq:∀b,w.heap.size<=b->q b) (hqM:∀b,q b->b≠Mb) (hi:i<ts.length) (hj:j<us.length) (hsi:ts[i].size<=1000) (hsj:us[j].size<=1000) (hil:i<=1000000) (hjl:j<=1000000)
  (hrel:(rel=1/\(r↔chn ks fs ts[i] us[j] 2))\/(rel=2/\(r↔chn ks fs ts[i] us[j] 1))\/(rel=3/\(r↔chn ks fs ts[i] us[j] 1/\chn ks fs us[j] ts[i] 1))) :
  Calls Tryz.prog 158 #[.agg #[zI (i:Int),zI (j:Int)],.pointer (some ⟨Bx,0,none⟩),zI rel] w (PrvA ks fs Mb q w 1 r):=by
 obtain⟨b,o,k1,n1,p1,xs,B,c1,rfl,hb,d0,d1,d2,d3,hT,_⟩:=treesAtP_at hP.ts hi;obtain⟨b',o',k2,n2,p2,ys,B',c2,rfl,hb',e0,e1,e2,e3,hT',_⟩:=treesAtP_at hP.us hj;obtain⟨t,hT0⟩:∃t,ts[i]=t:=⟨_,rfl⟩;obtain⟨u,hU0⟩:∃u,us[j]=u:=⟨_,rfl⟩;rw[hT0] at hsi hT hrel;rw[hU0] at hsj hT' hrel;have HP:=zH hP;have HT:=zH hT;have HT':=zH hT';obtain⟨nts,hnts⟩:∃n,ts.length=n:=⟨_,rfl⟩;obtain⟨nus,hnus⟩:∃n,us.length=n:=⟨_,rfl⟩;obtain⟨w1,hw1⟩:∃w1,w.alloc (.cells #[zI (i:Int),zI (j:Int)] 123)=w1:=⟨_,rfl⟩;obtain⟨w2,hw2⟩:∃w2,w1.alloc (.cells #[zI 0,zS,zS,zS] 39)=w2:=⟨_,rfl⟩;have b1:=zG hw1;have b2:=zG hw2;have q1:=zQ hw1;have q2:=zQ hw2;have l1:=zL q1;have l2:=zL q2;have b02:zb w w2:=b1.trans (b2.mono (by omega));have B02:=zH b02;have s02:w.heap.size<=w2.heap.size:=by omega
 have Q2:=zH q2;obtain⟨y0,y1⟩:=cells2e ((b2.block _ l1).trans q1);have hMb:=hC.lt;have hgl:w.heap.size<=w1.heap.size:=by omega
 have hgM:w1.heap.size≠Mb:=by omega
 have hp2:=hP.oth (zE b02);have x2:=hp2.left;have x3:=hp2.right;rw[hnts] at x2 hi;rw[hnus] at x3 hj;have f0':=(b02.cell (p:=⟨b,o+i*4,none⟩) hb).trans d0;have f1':=(b02.cell (p:=⟨b,o+i*4+1,none⟩) hb).trans d1;have f2':=(b02.cell (p:=⟨b,o+i*4+2,none⟩) hb).trans d2;have f3':=(b02.cell (p:=⟨b,o+i*4+3,none⟩) hb).trans d3;have g0':=(b02.cell (p:=⟨b',o'+j*4,none⟩) hb').trans e0;have g1':=(b02.cell (p:=⟨b',o'+j*4+1,none⟩) hb').trans e1;have g2':=(b02.cell (p:=⟨b',o'+j*4+2,none⟩) hb').trans e2;have g3':=(b02.cell (p:=⟨b',o'+j*4+3,none⟩) hb').trans e3;have SX:Hid ((zc w2 Bx 2 (.slice (some ⟨b,o,none⟩) nts cl)/\zc w2 Bx 3 (.slice (some ⟨b',o',none⟩) nus cr))/\(zc w2 w.heap.size 0 (zI (i:Int))/\zc w2 w.heap.size 1 (zI (j:Int)))/\(zc w2 b (o+i*4) (zI k1)/\zc w2 b (o+i*4+1) (S n1)/\zc w2 b (o+i*4+2) (zI p1)/\zc w2 b (o+i*4+3) (.slice B xs.length c1))/\(zc w2 b' (o'+j*4) (zI k2)/\zc w2 b' (o'+j*4+1) (S n2)/\zc w2 b' (o'+j*4+2) (zI p2)/\zc w2 b' (o'+j*4+3) (.slice B' ys.length c2))):=zH ⟨⟨x2,x3⟩,⟨y0,y1⟩,⟨f0',f1',f2',f3'⟩,⟨g0',g1',g2',g3'⟩⟩;have m1:=World.new_ne w2 _ x2;have m2:=World.new_ne w2 _ y0;have m3:=World.new_ne w2 _ f0';have m4:=World.new_ne w2 _ g0';simp only at m1 m2 m3 m4;have hi0:=zP i;have hi1:(i:Int)<(nts:Int):=by omega
 have hj0:=zP j;have hj1:(j:Int)<(nus:Int):=by omega
 have HC0:=zH hC;have CHN:Hid (∀(q1:Nat->Prop)(W:World)(m:Int),Oth Mb w W->Cache ks fs Mb q1 W->(∀b,W.heap.size<=b->q1 b)->(∀b,q1 b->b≠Mb)->Calls Tryz.prog 161 #[.pointer (some ⟨Bx,0,none⟩),.agg (zT k1 n1 p1 B xs c1),.agg (zT k2 n2 p2 B' ys c2),zI m] W (ChnAns ks fs Mb q1 W (chn ks fs t u m))):=zH (fun q1 W m ho hc h1 h2=>oChain_any q1 Bx Mb F A0 _ _ f0 c0 cl cr fs ks ts us m t u _ _ W hks hfl hfz hsi hsj (HP.o.oth ho) hc h1 h2 (HT.o.oth ho) (HT'.o.oth ho));have CHB:Hid (∀(q1:Nat->Prop)(W:World)(m:Int),Oth Mb w W->Cache ks fs Mb q1 W->(∀b,W.heap.size<=b->q1 b)->(∀b,q1 b->b≠Mb)->Calls Tryz.prog 161 #[.pointer (some ⟨Bx,0,none⟩),.agg (zT k2 n2 p2 B' ys c2),.agg (zT k1 n1 p1 B xs c1),zI m] W (ChnAns ks fs Mb q1 W (chn ks fs u t m))):=zH (fun q1 W m ho hc h1 h2=>oChain_any q1 Bx Mb F A0 _ _ f0 c0 cl cr fs ks ts us m u t _ _ W hks hfl hfz hsj hsi (HP.o.oth ho) hc h1 h2 (HT'.o.oth ho) (HT.o.oth ho));have HQS:=zH hq;have HQM:=zH hqM;clear hT hT' hP hp2 q1 q2 b1 b2 b02 d0 d1 d2 d3 e0 e1 e2 e3 hT0 hU0 hnts hnus hC hq hqM hfz;go_enter Tryz.func158,Tryz.ntmps158;go_upto_region 1 with fail;clear hw1 hw2;go_cut [8,9] (fun a b wx=>Hid (TwoT w2 k1 p1 k2 p2 n1 n2 xs.length ys.length c1 c2 B B' a b wx));case first =>
  go_region_held3 (fun W=>(W.cell? ⟨Bx,2,none⟩=some (.slice (some ⟨b,o,none⟩) nts cl)/\W.cell? ⟨Bx,3,none⟩=some (.slice (some ⟨b',o',none⟩) nus cr))/\(W.cell? ⟨w.heap.size,0,none⟩=some (zI (i:Int))/\W.cell? ⟨w.heap.size,1,none⟩=some (zI (j:Int)))/\(W.cell? ⟨b,o+i*4,none⟩=some (zI k1)/\W.cell? ⟨b,o+i*4+1,none⟩=some (S n1)/\W.cell? ⟨b,o+i*4+2,none⟩=some (zI p1)/\W.cell? ⟨b,o+i*4+3,none⟩=some (.slice B xs.length c1))/\(W.cell? ⟨b',o'+j*4,none⟩=some (zI k2)/\W.cell? ⟨b',o'+j*4+1,none⟩=some (S n2)/\W.cell? ⟨b',o'+j*4+2,none⟩=some (zI p2)/\W.cell? ⟨b',o'+j*4+3,none⟩=some (.slice B' ys.length c2)))
   (first | exact SX.o | go_keep)
   (fail)
  ·obtain⟨w5,hw5⟩:∃w5,((w2.alloc (.cells (zT k1 n1 p1 B xs c1) 51)).alloc (.cells (zT k2 n2 p2 B' ys c2) 51)).drew=w5:=⟨_,rfl⟩;rw[hw5];have b5:zb w2 w5:=(by rw[<-hw5];exact(((zB _ _).alloc (zN _) _).alloc (by simp) _).drew);have qa:w5.heap[w2.heap.size]?=some (.cells (zT k1 n1 p1 B xs c1) 51 (0,0)):=by
    rw[<-hw5];exact(Below.heap_alloc _ _ _ (by simp)).trans (zW _ _)
   have qb:w5.heap[w2.heap.size+1]?=some (.cells (zT k2 n2 p2 B' ys c2) 51 (0,0)):=by
    rw[<-hw5];exact two_alloc _ _ _
   have HR:Hid (TwoT w2 k1 p1 k2 p2 n1 n2 xs.length ys.length c1 c2 B B' (.pointer (some ⟨w2.heap.size,0,none⟩)) (.pointer (some ⟨w2.heap.size+1,0,none⟩)) w5):=zH ⟨w2.heap.size,w2.heap.size+1,rfl,rfl,⟨by omega,by omega⟩,b5,qa,qb⟩;clear hw5 qa qb b5;go_wp2_with fail;go_meet;exact HR
  obtain⟨w5,hw5⟩:∃w5,((w2.alloc (.cells (zT k2 n2 p2 B' ys c2) 51)).alloc (.cells (zT k1 n1 p1 B xs c1) 51)).drew=w5:=⟨_,rfl⟩;rw[hw5];have b5:zb w2 w5:=by rw[<-hw5];exact(((zB _ _).alloc (zN _) _).alloc (by simp) _).drew
  have qa:w5.heap[w2.heap.size]?=some (.cells (zT k2 n2 p2 B' ys c2) 51 (0,0)):=by
   rw[<-hw5];exact(Below.heap_alloc _ _ _ (by simp)).trans (zW _ _)
  have qb:w5.heap[w2.heap.size+1]?=some (.cells (zT k1 n1 p1 B xs c1) 51 (0,0)):=by
   rw[<-hw5];exact two_alloc _ _ _
  have HR:Hid (TwoT w2 k1 p1 k2 p2 n1 n2 xs.length ys.length c1 c2 B B' (.pointer (some ⟨w2.heap.size+1,0,none⟩)) (.pointer (some ⟨w2.heap.size,0,none⟩)) w5):=zH ⟨w2.heap.size+1,w2.heap.size,rfl,rfl,⟨by omega,by omega⟩,b5,qb,qa⟩;clear hw5 qa qb b5;go_wp2_with fail;go_meet;exact HR
 obtain⟨ga,gb,rfl,rfl,⟨lga,lgb⟩,bc,qa,qb⟩:=hcut.o;clear hcut SX m1 m2 m3 m4 x2 x3 y0 y1 f0' f1' f2' f3' g0' g1' g2' g3';obtain⟨w5,hw5⟩:∃w5,w5=wc:=⟨_,rfl⟩;subst hw5;have s5:=bc.size;have l6:w1.heap.size<w5.heap.size:=by omega
 have b05:=B02.o.trans (bc.mono s02);have BW:Hid (Oth Mb w w5):=zH (zE b05);have HG:=zH ((bc.block _ l2).trans Q2.o);have C5:Hid (Cache ks fs Mb (fun b=>q b/\b≠w1.heap.size) w5):=zH ((HC0.o.keep (q':=fun b=>q b/\b≠w1.heap.size) (row:=none) ⟨rfl,rfl,rfl,zN _,fun _ _ _=>rfl⟩ (fun e=>by cases e) (fun _ _ _ e=>by cases e) (fun b hb hq=>⟨hq,by omega⟩)).below b05);have NEW:Hid (∀W:World,w5.heap.size<=W.heap.size->∀b,W.heap.size<=b->q b/\b≠w1.heap.size):=zH (fun W hW b hb=>⟨HQS.o b (by omega),by omega⟩);have NEM:Hid (∀b,q b/\b≠w1.heap.size->b≠Mb):=zH (fun b hb=>HQM.o b hb.1);obtain⟨y0,y1,y2,y3⟩:=cells4v qa;obtain⟨z0,z1,z2,z3⟩:=cells4v qb;have QA:=zH qa;have QB:=zH qb;have la:=zL qa;have lb:=zL qb;have hMw:Mb<w.heap.size:=hMb;have hga:ga≠Mb:=by omega
 have hgb:gb≠Mb:=by omega
 clear bc b05 qa qb;rcases hrel with⟨rfl,hr⟩ | ⟨rfl,hr⟩ | ⟨rfl,hr⟩
 ·have CH:=zH (CHN.o _ w5 2 BW.o C5.o (NEW.o w5 (zN _)) NEM.o);have HRR:=zH hr;clear hr CHN CHB;go_wp2_with fail;refine CH.o.mono ?_;rintro e w6⟨⟨A6,n6,c6,bb,rfl,hl6,hn6,hb6⟩,hC6,ho6⟩;have s6:=ho6.size;have hgr:=(ho6.block _ l6 (fun e=>hgM (zO e))).trans HG.o;have n56:n6<=5000:=by omega
  obtain⟨s1,s2,s3,s4,h1,h2,h3,h4,⟨c0',c1',c2',c3'⟩,⟨t0,t1,t2,t3⟩,HQ,HZ⟩:=prv_fin (q:=q) (w:=w) (N:=1) (r:=r) (b:=bb) hgr (pf_chain hl6 n56 (LkO.nil (A:=none) (c:=0)) (Nat.zero_le _)) (by simp[Pf.size,Pf.sizes]) hC6 (BW.o.trans ho6) hgl hgM (hb6.trans HRR.o.symm);clear hgr hl6 hC6 ho6 hb6 CH y0 y1 y2 y3 z0 z1 z2 z3;cases bb with
  |true =>
   go_wp2_with fail;refine Zb (results_proof2 rfl _ _ _ _ _ _ _ rfl HQ.o) ?_;exact HZ.o
  |false =>
   go_wp2_with fail;refine Zb (results_proof2 rfl _ _ _ _ _ _ _ rfl HQ.o) ?_;exact HZ.o
 ·have CH:=zH (CHN.o _ w5 1 BW.o C5.o (NEW.o w5 (zN _)) NEM.o);have HRR:=zH hr;clear hr CHN CHB;go_wp2_with fail;refine CH.o.mono ?_;rintro e w6⟨⟨A6,n6,c6,bb,rfl,hl6,hn6,hb6⟩,hC6,ho6⟩;have s6:=ho6.size;have hgr:=(ho6.block _ l6 (fun e=>hgM (zO e))).trans HG.o;have n56:n6<=5000:=by omega
  obtain⟨s1,s2,s3,s4,h1,h2,h3,h4,⟨c0',c1',c2',c3'⟩,⟨t0,t1,t2,t3⟩,HQ,HZ⟩:=prv_fin (q:=q) (w:=w) (N:=1) (r:=r) (b:=bb) hgr (pf_chain hl6 n56 (LkO.nil (A:=none) (c:=0)) (Nat.zero_le _)) (by simp[Pf.size,Pf.sizes]) hC6 (BW.o.trans ho6) hgl hgM (hb6.trans HRR.o.symm);clear hgr hl6 hC6 ho6 hb6 CH y0 y1 y2 y3 z0 z1 z2 z3;cases bb with
  |true =>
   go_wp2_with fail;refine Zb (results_proof2 rfl _ _ _ _ _ _ _ rfl HQ.o) ?_;exact HZ.o
  |false =>
   go_wp2_with fail;refine Zb (results_proof2 rfl _ _ _ _ _ _ _ rfl HQ.o) ?_;exact HZ.o
 have CH:=zH (CHN.o _ w5 1 BW.o C5.o (NEW.o w5 (zN _)) NEM.o);have HRR:=zH hr;clear hr CHN;go_wp2_with fail;refine CH.o.mono ?_;rintro e w6⟨⟨A6,n6,c6,bb,rfl,hl6,hn6,hb6⟩,hC6,ho6⟩;have s6:=ho6.size;have n56:n6<=5000:=by omega
 clear CH y0 y1 y2 y3 z0 z1 z2 z3;cases bb with
 |false =>
  have hgr:=(ho6.block _ l6 (fun e=>hgM (zO e))).trans HG.o;obtain⟨s1,s2,s3,s4,h1,h2,h3,h4,⟨c0',c1',c2',c3'⟩,⟨t0,t1,t2,t3⟩,HQ,HZ⟩:=prv_fin (q:=q) (w:=w) (N:=1) (r:=r) (b:=false) hgr (pf_chain hl6 n56 (LkO.nil (A:=none) (c:=0)) (Nat.zero_le _)) (by simp[Pf.size,Pf.sizes]) hC6 (BW.o.trans ho6) hgl hgM ⟨fun h=>(by cases h),fun h=>by have:=hb6.2 (HRR.o.1 h).1;cases this⟩;clear hgr hl6 hC6 ho6 hb6;go_wp2_with fail;refine Zb (results_proof2 rfl _ _ _ _ _ _ _ rfl HQ.o) ?_;exact HZ.o
 |true =>
  obtain⟨y0,y1,y2,y3⟩:=cells4v ((ho6.block _ la (fun e=>hga (zO e))).trans QA.o);obtain⟨z0,z1,z2,z3⟩:=cells4v ((ho6.block _ lb (fun e=>hgb (zO e))).trans QB.o);have CB:=zH (CHB.o _ w6 1 (BW.o.trans ho6) hC6 (NEW.o w6 s6) NEM.o);have HL6:=zH hl6;have HO6:=zH ho6;have HB6:=zH hb6;clear hl6 hC6 ho6 hb6 CHB;go_wp2_with fail;refine CB.o.mono ?_;rintro e w7⟨⟨A7,n7,c7,bb,rfl,hl7,hn7,hb7⟩,hC7,ho7⟩;have s7:=ho7.size;have n57:n7<=5000:=by omega
  have ho57:=HO6.o.trans ho7;have hgr:=(ho57.block _ l6 (fun e=>hgM (zO e))).trans HG.o;have hl67:LkO (fun b=>q b/\b≠w1.heap.size) w7 A6 n6 c6:=HL6.o.keep (fun b hb hlt=>ho7.block b hlt (fun e=>NEM.o b hb (zO e))) s7 (fun _ _ h=>h);obtain⟨s1,s2,s3,s4,h1,h2,h3,h4,⟨c0',c1',c2',c3'⟩,⟨t0,t1,t2,t3⟩,HQ,HZ⟩:=prv_fin (q:=q) (w:=w) (N:=1) (r:=r) (b:=bb) hgr (pf_chain hl67 n56 hl7 n57) (by simp[Pf.size,Pf.sizes]) hC7 (BW.o.trans ho57) hgl hgM ⟨fun h=>HRR.o.2 ⟨HB6.o.1 (by simp),hb7.1 h⟩,fun h=>hb7.2 (HRR.o.1 h).2⟩;clear hgr hl7 hC7 ho7 hb7 ho57 hl67 y0 y1 y2 y3 z0 z1 z2 z3 CB;go_wp2_with fail;refine Zb (results_proof2 rfl _ _ _ _ _ _ _ rfl HQ.o) ?_;exact HZ.o
theorem oArgW_any(q:Nat->Prop)(Bx Mb i j:Nat)(fs:List Fact)(ks:List Int)(r:Prop)(w:World)(hMb:Mb<w.heap.size)(hC:Cache ks fs Mb q w)
  (hp:∀W(q':Nat->Prop),zb w W->Cache ks fs Mb q' W->(∀b,W.heap.size<=b->q' b)->(∀b,q' b->b≠Mb)->Calls Tryz.prog 158 #[.agg #[zI (i:Int),zI (j:Int)],.pointer (some ⟨Bx,0,none⟩),zI 2] W (PrvA ks fs Mb q' W 1 r)) (hq:∀b,w.heap.size<=b->q b) (hqM:∀b,q b->b≠Mb) :
  Calls Tryz.prog 160 #[.agg #[zI (i:Int),zI (j:Int)],.pointer (some ⟨Bx,0,none⟩)] w (PrvA ks fs Mb q w 1 r):=by
 obtain⟨w1,hw1⟩:∃w1,w.alloc (.cells #[zI (i:Int),zI (j:Int)] 123)=w1:=⟨_,rfl⟩;obtain⟨w2,hw2⟩:∃w2,w1.alloc (.cells #[zI 0,zS,zS,zS] 39)=w2:=⟨_,rfl⟩;have b1:=zG hw1;have b2:=zG hw2;have q1:=zQ hw1;have q2:=zQ hw2;have l1:=zL q1;have l2:=zL q2;have b02:zb w w2:=b1.trans (b2.mono (by omega));obtain⟨y0,y1⟩:=cells2e ((b2.block _ l1).trans q1);have hgl:w.heap.size<=w1.heap.size:=by omega
 have hgM:w1.heap.size≠Mb:=by omega
 have CP:=zH (hp w2 (fun b=>q b/\b≠w1.heap.size) b02 ((hC.keep (q':=fun b=>q b/\b≠w1.heap.size) (row:=none) ⟨rfl,rfl,rfl,zN _,fun _ _ _=>rfl⟩ (fun e=>by cases e) (fun _ _ _ e=>by cases e) (fun b hb hq=>⟨hq,by omega⟩)).below b02) (fun b hb=>⟨hq b (by omega),by omega⟩) (fun b hb=>hqM b hb.1));have B02:=zH b02;have Q2:=zH q2;clear hp hC hq hqM b1 b2 q1 q2 b02;go_enter Tryz.func160,Tryz.ntmps160;go_wp2_with fail;refine CP.o.mono ?_;rintro e w6⟨⟨pf,ix,A,A1,A2,n,n1,n2,c,c1,c2,bb,rfl,hpf,hsz,hb⟩,hC6,ho6⟩;obtain⟨s1,s2,s3,s4,h1,h2,h3,h4,⟨c0',c1',c2',c3'⟩,⟨t0,t1,t2,t3⟩,HQ,HZ⟩:=prv_fin (q:=q) (w:=w) (N:=1) (r:=r) (b:=bb) ((ho6.block _ l2 (fun e=>hgM (zO e))).trans Q2.o) hpf hsz hC6 ((zE B02.o).trans ho6) hgl hgM hb;clear hpf hC6 ho6 hb CP y0 y1 hw1 hw2;go_wp2_with fail;refine Zb (results_proof2 rfl _ _ _ _ _ _ _ rfl HQ.o) ?_;exact HZ.o
end Go.Proofs.YtadjpadieljjlaaGreat
