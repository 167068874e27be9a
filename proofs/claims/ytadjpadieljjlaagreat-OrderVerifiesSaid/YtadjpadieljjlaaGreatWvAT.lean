/- Parts of the proof that no input makes the law false: OvF, OvArg. -/
import Derived.Test.YtadjpadieljjlaaGreatWvAR
set_option linter.unusedVariables false
set_option linter.unusedSimpArgs false
set_option maxRecDepth 100000
set_option maxHeartbeats 32000000
namespace Lfc
theorem folS_no{ks:List Int}{fs:List Fact}{t r x:Raw}{l:List Link}{s:Int}{k:Nat}(hk:k<l.length)(h:fol ks fs t (l.take k) 1=some (x,s))(hl:lstep ks fs x l[k]=none):folS ks fs t r l=0:=by
 have h1:=fol_take hk h;rw[hl] at h1;unfold folS;rw[fol_none h1]
theorem lstep_up{ks:List Int}{fs:List Fact}{x t:Raw}{p:List Int}{f:Int}(h:f=0∧Raw.fits ks x t p=true):lstep ks fs x ⟨1,t,p,f⟩=some (t,decide (0<p.length)):=by
 rw[lstep,if_pos rfl,if_pos h]
theorem lstep_up_no{ks:List Int}{fs:List Fact}{x t:Raw}{p:List Int}{f:Int}(h:¬(f=0∧Raw.fits ks x t p=true)):lstep ks fs x ⟨1,t,p,f⟩=none:=by
 rw[lstep,if_pos rfl,if_neg h]
theorem lstep_to{ks:List Int}{fs:List Fact}{x t:Raw}{p:List Int}{m:Nat}{l r:Raw}{rel:Int}(e:fs.getD m noFact=⟨l,rel,r⟩)(h:(t.nul=true∧p.length=0)∧m<fs.length∧Raw.tsm x l=true):lstep ks fs x ⟨2,t,p,(m:Int)⟩=some (r,decide (rel=1)):=by
 rw[lstep,if_neg (show ¬((2:Int)=1) by decide),if_pos rfl];simp only[Int.toNat_natCast,e];rw[if_pos ⟨h.1,⟨by omega,by omega⟩,h.2.2⟩]
theorem lstep_to_no{ks:List Int}{fs:List Fact}{x t:Raw}{p:List Int}{f:Int}(h:¬((t.nul=true∧p.length=0)∧(0≤f∧f<(fs.length:Int))∧Raw.tsm x (fs.getD f.toNat noFact).l=true)):lstep ks fs x ⟨2,t,p,f⟩=none:=by
 rw[lstep,if_neg (show ¬((2:Int)=1) by decide),if_pos rfl,if_neg h]
theorem lstep_bk{ks:List Int}{fs:List Fact}{x t:Raw}{p:List Int}{m:Nat}{l r:Raw}(e:fs.getD m noFact=⟨l,3,r⟩)(h:(t.nul=true∧p.length=0)∧m<fs.length∧Raw.tsm x r=true):lstep ks fs x ⟨3,t,p,(m:Int)⟩=some (l,false):=by
 rw[lstep,if_neg (show ¬((3:Int)=1) by decide),if_neg (show ¬((3:Int)=2) by decide),if_pos rfl];simp only[Int.toNat_natCast,e];rw[if_pos ⟨h.1,⟨by omega,by omega⟩,trivial,h.2.2⟩]
theorem lstep_bk_no{ks:List Int}{fs:List Fact}{x t:Raw}{p:List Int}{f:Int}(h:¬((t.nul=true∧p.length=0)∧(0≤f∧f<(fs.length:Int))∧(fs.getD f.toNat noFact).rel=3∧Raw.tsm x (fs.getD f.toNat noFact).r=true)):lstep ks fs x ⟨3,t,p,f⟩=none:=by
 rw[lstep,if_neg (show ¬((3:Int)=1) by decide),if_neg (show ¬((3:Int)=2) by decide),if_pos rfl,if_neg h]
theorem lstep_else{ks:List Int}{fs:List Fact}{x t:Raw}{p:List Int}{k f:Int}(h1:k≠1)(h2:k≠2)(h3:k≠3):lstep ks fs x ⟨k,t,p,f⟩=none:=by
 rw[lstep,if_neg h1,if_neg h2,if_neg h3]
end Lfc
namespace Go.Proofs.YtadjpadieljjlaaGreat
open Go.RowKit Go.Maps _root_.Lfc
attribute [local go_sem ↓] Go.wp_at_zero Go.wp_at_succ
structure PvV(w:World)(Bx:Nat)(F A0 L R:Option Addr)(f0 c0 cl cr:Nat)(fs:List Fact)(ks:List Int)(ts us:List Raw):Prop where
 lt:Bx<w.heap.size
 facts:w.cell? ⟨Bx,0,none⟩=some (.slice F fs.length f0)
 kinds:w.cell? ⟨Bx,1,none⟩=some (.slice A0 ks.length c0)
 left:w.cell? ⟨Bx,2,none⟩=some (.slice L ts.length cl)
 right:w.cell? ⟨Bx,3,none⟩=some (.slice R us.length cr)
 fs:FactsP (fun _=>True) w F fs
 ks:IntsP (fun _=>True) w A0 ks
 ts:TreesAtP (fun _=>True) w L ts
 us:TreesAtP (fun _=>True) w R us
theorem PvV.below{w w':World}{Bx:Nat}{F A0 L R:Option Addr}{f0 c0 cl cr:Nat}{fs:List Fact}{ks:List Int}{ts us:List Raw}(h:PvV w Bx F A0 L R f0 c0 cl cr fs ks ts us)(hb:Below w.heap.size w w'):PvV w' Bx F A0 L R f0 c0 cl cr fs ks ts us :=
 ⟨Zl h.lt hb.size,(hb.cell h.lt).trans h.facts,(hb.cell h.lt).trans h.kinds,(hb.cell h.lt).trans h.left,(hb.cell h.lt).trans h.right,
  h.fs.below hb,h.ks.keep (fun b _ hlt=>hb.block b hlt) hb.size (fun _ _ h=>h),h.ts.keep (fun b _ hlt=>hb.block b hlt) hb.size (fun _ _ h=>h),h.us.keep (fun b _ hlt=>hb.block b hlt) hb.size (fun _ _ h=>h)⟩
def FoI(w:World)(B2:Nat)(cs:Array Value)(ks:List Int)(fs:List Fact)(t:Raw)(l:List Link)(k:Nat)(z:Int)(wr:World):Prop :=
 ∃x kx nx px xs Ax cx,fol ks fs t (l.take k) 1=some (x,z)∧x=.node kx nx px xs∧x.size≤1000000∧TreeV w x (.agg #[.int .i64 kx,S nx,.int .i64 px,.slice Ax (List.length xs) cx])∧Below w.heap.size w wr ∧
  wr.heap[w.heap.size]?=some (.cells #[.int .i64 kx,S nx,.int .i64 px,.slice Ax (List.length xs) cx] 51 (0,0))∧wr.heap[B2]?=some (.cells cs 51 (0,0))
theorem intCase0(k:Int):∃b,(k == 0)=b∧decide (k=0)=b:=⟨_,rfl,by rw[Bool.eq_iff_iff];simp⟩
theorem lenCaseV(m:Nat):∃b,((m:Int) == 0)=b∧decide (m=0)=b:=⟨_,rfl,by rw[Bool.eq_iff_iff];simp⟩
theorem nameCaseV(n q:List UInt8):∃b,(n == q)=b∧decide (n=q)=b:=⟨_,rfl,by rw[Bool.eq_iff_iff];simp⟩
theorem FoI.step{w wr:World}{B2:Nat}{cs:Array Value}{ks:List Int}{fs:List Fact}{t x:Raw}{l:List Link}{k:Nat}{z:Int}(hk:k<l.length)(h:fol ks fs t (l.take k) 1=some (x,z)){y:Raw}{b:Bool}(hs:lstep ks fs x l[k]=some (y,b)){ky py:Int}{ny:List UInt8}{ys:List Raw}{Ay:Option Addr}{cy:Nat}(hy:y=.node ky ny py ys)(hsz:y.size≤1000000)(hv:TreeV w y (.agg #[.int .i64 ky,S ny,.int .i64 py,.slice Ay (List.length ys) cy]))(hb:Below w.heap.size w wr)
  (h1:wr.heap[w.heap.size]?=some (.cells #[.int .i64 ky,S ny,.int .i64 py,.slice Ay (List.length ys) cy] 51 (0,0))) (h2:wr.heap[B2]?=some (.cells cs 51 (0,0))):FoI w B2 cs ks fs t l (k+1) (if b then 2 else z) wr:=by
 have h3:=fol_take hk h;rw[hs] at h3;exact⟨y,ky,ny,py,ys,Ay,cy,h3,hy,hsz,hv,hb,h1,h2⟩
theorem oFollows_any(q:Nat->Prop)(Bx:Nat)(F A0 L R:Option Addr)(nf0 c0 cl cr:Nat)(fs:List Fact)(ks:List Int)(ts us:List Raw)(t r:Raw)(vt vr:Value)(l:List Link)(A:Option Addr)(c:Nat)(w:World)
  (hfn:fs.length<=1000000) (hks:ks.length<=1000000) (hln:l.length<=1000000) (hfs:∀f∈fs,f.l.size<=1000000/\f.r.size<=1000000) (hls:∀x∈l,x.term.size<=1000000/\x.path.length<=1000000)
  (hP:PvV w Bx F A0 L R nf0 c0 cl cr fs ks ts us) (hst:t.size<=1000000) (hsr:r.size<=1000000) (hv:TreeV w t vt) (hvr:TreeV w r vr) (hl:LinksP q w A l) :
  Calls Tryz.prog 162 #[.pointer (some ⟨Bx,0,none⟩),vt,vr,.slice A l.length c] w fun e w'=>e=.returned (zI (folS ks fs t r l))/\zb w w':=by
 have HV:=zH hv;have HVR:=zH hvr;obtain⟨At,ct,kd,nm,ps,xs,hT,rfl⟩:∃A c kd nm ps xs,t=.node kd nm ps xs/\vt=.agg (zT kd nm ps A xs c):=by
  obtain⟨kd,nm,ps,ts⟩:=t;obtain⟨A,c,rfl,hc,hA⟩:=hv.open_;exact⟨A,c,kd,nm,ps,ts,rfl,rfl⟩
 obtain⟨Ar,cr',kd',nm',ps',ys,hU,rfl⟩:∃A c kd nm ps xs,r=.node kd nm ps xs/\vr=.agg (zT kd nm ps A xs c):=by
  obtain⟨kd,nm,ps,ts⟩:=r;obtain⟨A,c,rfl,hc,hA⟩:=hvr.open_;exact⟨A,c,kd,nm,ps,ts,rfl,rfl⟩
 obtain⟨w1,hw1⟩:∃w1,w.alloc (.cells (zT kd nm ps At xs ct) 51)=w1:=⟨_,rfl⟩;obtain⟨w2,hw2⟩:∃w2,w1.alloc (.cells (zT kd' nm' ps' Ar ys cr') 51)=w2:=⟨_,rfl⟩;have b1:=zG hw1;have b2:=zG hw2;have q1:=zQ hw1;have q2:=zQ hw2;have l1:=zL q1;have l2:=zL q2;obtain⟨cs,hcs⟩:∃cs,((zT kd' nm' ps' Ar ys cr'):Array Value)=cs:=⟨_,rfl⟩;have I0:Hid (FoI w w1.heap.size cs ks fs t l 0 1 w2):=zH ⟨t,kd,nm,ps,xs,At,ct,rfl,hT,hst,HV.o,b1.trans (b2.mono (by omega)),(b2.block _ l1).trans q1,by rw[<-hcs];exact q2⟩;have HCS:=zH hcs;have HL:=zH hl;have HLS:=zH hls;have HFS:=zH hfs;have HP:=zH hP;have L1:=zH l1;obtain⟨N,hN⟩:∃N,l.length=N:=⟨_,rfl⟩;rw[hN] at hln ⊢;have HN:=zH hN;clear hv hvr hl hls hfs hP b1 b2 q1 q2 l1 l2 hcs hN hT hU;go_enter Tryz.func162,Tryz.ntmps162;go_wp2_with fail;go_loopw [9,15] (fun s i wr=>∃(k:Nat)(z:Int),k<=N/\s=zI z/\i=zI (k:Int)/\Hid (FoI w w1.heap.size cs ks fs t l k z wr)) (fun _ i _=>N-(intOf i).toNat);case atStart=>exact⟨0,1,by omega,rfl,rfl,I0⟩
 clear I0 hw1 hw2;obtain⟨k,z,hk,rfl,rfl,HI⟩:=hrel;obtain⟨x,kx,nx,px,xv,Ax,cx,hfol,hx,hsx,hvx,hbw,hq1,hq2⟩:=HI.o;have lz:=L1.o;have l1:=zL hq1;have l2:=zL hq2;have HVX:=zH hvx;have HSX:=zH hsx;have HBW:=zH hbw;have Q1':=zH hq1;have Q2':=zH hq2;have HFOL:=zH hfol;by_cases hlt:k<N
 ·have hlt2:k<l.length:=by rw[HN.o];exact hlt
  obtain⟨b,o,rfl,hb,_,hall⟩:=HL.o (by intro h;rw[h] at hlt2;cases hlt2);obtain⟨ku,nu,pu,zs,Au,cu,Ap,cp,he,d0,d1,d2,d3,d4,d5,d6,hcp,hip,htv⟩:=hall k hlt2;obtain⟨hsz,hpl⟩:=HLS.o _ (Ze hlt2);have HNO:Hid (lstep ks fs x l[k]=none->folS ks fs t r l=0):=zH (folS_no hlt2 hfol);have HST:Hid (∀(y:Raw)(bb:Bool),lstep ks fs x l[k]=some (y,bb)->∀(ky py:Int)(ny:List UInt8)(ys':List Raw)(Ay:Option Addr)(cy:Nat)(wz:World),y=.node ky ny py ys'->y.size<=1000000->TreeV w y (.agg (zT ky ny py Ay ys' cy))->zb w wz->zk wz w.heap.size (zT ky ny py Ay ys' cy) 51->wz.heap[w1.heap.size]?=some (.cells cs 51 (0,0))->FoI w w1.heap.size cs ks fs t l (k+1) (if bb then 2 else z) wz):=zH (fun y bb h1 ky py ny ys' Ay cy wz h2 h3 h4 h5 h6 h7=>FoI.step hlt2 hfol h1 h2 h3 h4 h5 h6 h7);generalize l[k]=y at *;obtain⟨yk,yt,yp,yf⟩:=y;simp only at he d0 d5 d6 hcp hip htv hsz hpl;have HE:=zH he;have HSZ:=zH hsz;have HPL:=zH hpl;have f0:=(hbw.cell (p:=⟨b,o+k*7,none⟩) hb).trans d0;have f1:=(hbw.cell (p:=⟨b,o+k*7+1,none⟩) hb).trans d1;have f2:=(hbw.cell (p:=⟨b,o+k*7+2,none⟩) hb).trans d2;have f3:=(hbw.cell (p:=⟨b,o+k*7+3,none⟩) hb).trans d3;have f4:=(hbw.cell (p:=⟨b,o+k*7+4,none⟩) hb).trans d4;have f5:=(hbw.cell (p:=⟨b,o+k*7+5,none⟩) hb).trans d5;have f6:=(hbw.cell (p:=⟨b,o+k*7+6,none⟩) hb).trans d6;have HTV:=zH htv.toV;have HIP:=zH hip.toO;have hi0:=zP k;have hi1:(k:Int)<(N:Int):=by omega
  obtain⟨w3,hw3⟩:∃w3,wr.alloc (.cells #[zI yk,zI ku,S nu,zI pu,.slice Au zs.length cu,.slice Ap yp.length cp,zI yf] 93)=w3:=⟨_,rfl⟩;have b3:=zG hw3;have q3:=zQ hw3;have l3:=zL q3;have B03:Hid (zb w w3):=zH (hbw.trans (b3.mono hbw.size));have s03:w.heap.size<=w3.heap.size:=B03.o.size;have Q1:Hid (zk w3 w.heap.size (zT kx nx px Ax xv cx) 51):=zH ((b3.block _ l1).trans hq1);have Q2:Hid (w3.heap[w1.heap.size]?=some (.cells cs 51 (0,0))):=zH ((b3.block _ l2).trans hq2);have Q3:=zH q3;have HP3:=zH (HP.o.below B03.o);have SC:Hid (∀W,zb w3 W->zc W Bx 0 (.slice F fs.length nf0)/\zc W Bx 1 (.slice A0 ks.length c0)/\(zc W w.heap.size 0 (zI kx)/\zc W w.heap.size 1 (S nx)/\zc W w.heap.size 2 (zI px)/\zc W w.heap.size 3 (.slice Ax xv.length cx))/\(zc W wr.heap.size 0 (zI yk)/\zc W wr.heap.size 1 (zI ku)/\zc W wr.heap.size 2 (S nu)/\zc W wr.heap.size 3 (zI pu)/\zc W wr.heap.size 4 (.slice Au zs.length cu)/\zc W wr.heap.size 5 (.slice Ap yp.length cp)/\zc W wr.heap.size 6 (zI yf))):=zH (fun W hW=>by
   have e:=(hW.block _ l3).trans Q3.o;exact⟨(HP3.o.below hW).facts,(HP3.o.below hW).kinds,cells4t ((hW.block _ (by omega)).trans Q1.o),zC e 0,zC e 1,zC e 2,zC e 3,zC e 4,zC e 5,zC e 6⟩)
  have CF:Hid (∀W,zb w3 W->Calls Tryz.prog 32 #[.agg (zT kx nx px Ax xv cx),.agg (zT ku nu pu Au zs cu),.slice Ap yp.length cp,.slice A0 ks.length c0] W fun e w'=>e=.returned (.bool (Raw.fits ks x yt yp))/\zb W w'):=zH (fun W hW=>by
   have hbW:=B03.o.trans (hW.mono s03);exact oFits_any x yt _ _ yp Ap cp ks A0 c0 W HPL.o hks HSX.o HSZ.o (HIP.o.below hbW) ((HP3.o.below hW).ks.toO) (HVX.o.below hbW) (HTV.o.below hbW))
  have CS:Hid (∀W,zb w W->∀(y:Raw)(vy:Value),TreeV w y vy->Calls Tryz.prog 167 #[.agg (zT kx nx px Ax xv cx),vy] W fun e w'=>e=.returned (.bool (Raw.tsm x y))/\zb W w'):=zH (fun W hW y vy hy=>tSame_upto _ (zR HSX.o (by decide)) x y _ _ W (zN _) (HVX.o.below hW) (hy.below hW));have HF:Hid (∀m,m<fs.length->∃b o,F=some ⟨b,o,none⟩/\b<w.heap.size/\FactO (fun _=>True) w b (o+m*9) (fs.getD m noFact)/\((fs.getD m noFact).l.size<=1000000/\(fs.getD m noFact).r.size<=1000000)):=zH (fun m hm=>by
   obtain⟨b,o,hF,hlt,_,hf⟩:=HP.o.fs (by intro h;rw[h] at hm;cases hm);have e:fs.getD m noFact=fs[m]:=(by rw[List.getD_eq_getElem?_getD,Zg hm,Option.getD_some]);rw[e];exact⟨b,o,hF,hlt,hf m hm,HFS.o _ (Ze hm)⟩)
  obtain⟨e1,g1,g1'⟩:=intCase0 ku;obtain⟨e2,g2,g2'⟩:=nameCaseV nu [];obtain⟨e3,g3,g3'⟩:=intCase0 pu;obtain⟨e4,g4,g4'⟩:=lenCaseV zs.length;obtain⟨e5,g5,g5'⟩:=lenCaseV yp.length;have HEM:Hid ((yt.nul && decide (yp.length=0))=((((e1 && e2) && e3) && e4) && e5)):=zH (by rw[HE.o,Raw.nul,g1',g2',g3',g4',g5']);have HW3:=zH hw3;clear he hsz hpl d0 d1 d2 d3 d4 d5 d6 hcp hip htv hall hb hfol hx hsx hvx hbw hq1 hq2 b3 q3 hw3 HI hlt2;go_upto_region 5 with fail;rw[HW3.o];clear HW3 f0 f1 f2 f3 f4 f5 f6;obtain⟨p0,p1,⟨y0,y1,y2,y3⟩,⟨z0,z1,z2,z3,z4,z5,z6⟩⟩:=SC.o _ (zB _ _);go_cut [12] from 19 to 48 (fun e wx=>e=.bool ((((e1 && e2) && e3) && e4) && e5)/\wx=w3);case first =>
   cases e1 with
   |false=>(go_wp2_with fail;go_meet;exact⟨rfl,rfl⟩)
   |true =>
    cases e2 with
    |false=>(go_wp2_with fail;go_meet;exact⟨rfl,rfl⟩)
    |true =>
     cases e3 with
     |false=>(go_wp2_with fail;go_meet;exact⟨rfl,rfl⟩)
     |true =>
      cases e4 with
      |false=>(go_wp2_with fail;go_meet;exact⟨rfl,rfl⟩)
      |true=>cases e5 <;> (go_wp2_with fail;go_meet;exact⟨rfl,rfl⟩)
  obtain⟨hec,hwx⟩:=hcut;subst hec;rw[hwx];clear hwx g1 g1' g2 g2' g3 g3' g4 g4' g5 g5';obtain⟨E,hE⟩:∃E,((((e1 && e2) && e3) && e4) && e5)=E:=⟨_,rfl⟩;rw[hE] at HEM ⊢;clear hE;by_cases hk1:yk=1
  ·subst hk1
   as_aux_lemma =>
    by_cases hf0:yf=0
    ·subst hf0;go_upto_region 7 with fail;refine Zs 18 ?_;simp only[Zc,List.take_zero,List.drop_succ_cons,List.drop_zero];change wpStill Tryz.prog _ w3.drew _ _ _;repeat still_step
     try refine wpStill_nil ?_
     change wpList _ _ _ _ _ w3.drew;obtain⟨w4,hw4⟩:∃v,w3.drew=v:=⟨_,rfl⟩;rw[hw4];have bw4:zb w3 w4:=(by rw[<-hw4];exact(zB _ _).drew);clear hw4;clear p0 p1 y0 y1 y2 y3 z0 z1 z2 z3 z4 z5 z6;obtain⟨p0,p1,⟨y0,y1,y2,y3⟩,⟨z0,z1,z2,z3,z4,z5,z6⟩⟩:=SC.o _ bw4;obtain⟨g,hg⟩:∃g,Raw.fits ks x yt yp=g:=⟨_,rfl⟩;have CF4:=zH (CF.o _ bw4);rw[hg] at CF4;have HG:=zH hg;clear hg;go_wp2_with fail;refine CF4.o.mono ?_;rintro e w5⟨rfl,b5'⟩;have b5:zb w3 w5:=bw4.trans (b5'.mono bw4.size);clear b5' CF4;clear p0 p1 y0 y1 y2 y3 z0 z1 z2 z3 z4 z5 z6;obtain⟨p0,p1,⟨y0,y1,y2,y3⟩,⟨z0,z1,z2,z3,z4,z5,z6⟩⟩:=SC.o _ b5;cases g with
     |true =>
      by_cases hq:0<yp.length
      ·have hd1:decide ((yp.length:Int)>0)=true:=Zt (by omega);have hd2:decide ((0:Int)<(yp.length:Int))=true:=Zt (by omega);have hd3:decide (yp.length>0)=true:=Zt (by omega);have hd4:decide (0<yp.length)=true:=Zt (by omega);obtain⟨s1,s2,s3,s4,k1,k2,k3,k4,⟨r0,r1,r2,r3⟩,⟨u0,u1,u2,u3⟩,hq4',ho⟩:=put4 ((b5.block _ (by omega)).trans Q1.o) (zI ku) (S nu) (zI pu) (.slice Au zs.length cu);have HN2:Hid (FoI w w1.heap.size cs ks fs t l (k+1) (if decide (0<yp.length) then 2 else z) s4):=zH (HST.o _ _ (lstep_up ⟨rfl,HG.o⟩) _ _ _ _ _ _ _ HE.o HSZ.o HTV.o (Oth.below (B03.o.trans (b5.mono s03)) ho (zN _) (zR s03 b5.size)) hq4' (ho.heap ((b5.block _ (by omega)).trans Q2.o) (by omega)));clear hq4' ho;have HN3:Hid (FoI w w1.heap.size cs ks fs t l (k+1) 2 s4):=zH (by have h:=HN2.o;rwa[hd4,if_pos rfl] at h);clear HN2;go_wp2_with fail;go_roundw;case rel=>exact⟨k+1,2,by omega,rfl,by simp,HN3⟩
       case measure=>simp[intOf];omega
      have hd1:decide ((yp.length:Int)>0)=false:=Zu (by omega);have hd2:decide ((0:Int)<(yp.length:Int))=false:=Zu (by omega);have hd3:decide (yp.length>0)=false:=Zu (by omega);have hd4:decide (0<yp.length)=false:=Zu (by omega);obtain⟨s1,s2,s3,s4,k1,k2,k3,k4,⟨r0,r1,r2,r3⟩,⟨u0,u1,u2,u3⟩,hq4',ho⟩:=put4 ((b5.block _ (by omega)).trans Q1.o) (zI ku) (S nu) (zI pu) (.slice Au zs.length cu);have HN2:Hid (FoI w w1.heap.size cs ks fs t l (k+1) (if decide (0<yp.length) then 2 else z) s4):=zH (HST.o _ _ (lstep_up ⟨rfl,HG.o⟩) _ _ _ _ _ _ _ HE.o HSZ.o HTV.o (Oth.below (B03.o.trans (b5.mono s03)) ho (zN _) (zR s03 b5.size)) hq4' (ho.heap ((b5.block _ (by omega)).trans Q2.o) (by omega)));clear hq4' ho;have HN3:Hid (FoI w w1.heap.size cs ks fs t l (k+1) z s4):=zH (by have h:=HN2.o;rwa[hd4,if_neg (by decide)] at h);clear HN2;go_wp2_with fail;go_roundw;case rel=>exact⟨k+1,z,by omega,rfl,by simp,HN3⟩
      case measure=>simp[intOf];omega
     |false =>
      have HZ:Hid (folS ks fs t r l=0):=zH (HNO.o (lstep_up_no (fun h=>by have:=h.2;rw[HG.o] at this;cases this)));go_upto_region 11 with fail;go_quiet (fail);obtain⟨w11,hw11⟩:∃v,w5.drewN nq=v:=⟨_,rfl⟩;rw[hw11];have bw11:zb w3 w11:=(by rw[<-hw11];exact below_drewN b5 nq);clear hw11;clear p0 p1 y0 y1 y2 y3 z0 z1 z2 z3 z4 z5 z6;obtain⟨p0,p1,⟨y0,y1,y2,y3⟩,⟨z0,z1,z2,z3,z4,z5,z6⟩⟩:=SC.o _ bw11;go_upto_region 15 with fail;go_quiet (fail);obtain⟨w15,hw15⟩:∃v,w11.drewN nq=v:=⟨_,rfl⟩;rw[hw15];have bw15:zb w3 w15:=(by rw[<-hw15];exact below_drewN bw11 nq);clear hw15;clear p0 p1 y0 y1 y2 y3 z0 z1 z2 z3 z4 z5 z6;obtain⟨p0,p1,⟨y0,y1,y2,y3⟩,⟨z0,z1,z2,z3,z4,z5,z6⟩⟩:=SC.o _ bw15;have HY:=zH (B03.o.trans (bw15.mono s03));go_wp2_with fail;go_ret;exact⟨by rw[HZ.o];rfl,HY.o⟩
    have n1:(yf == 0)=false:=(by simpa using hf0);have n2:decide (yf=0)=false:=(by simpa using hf0);have HZ:Hid (folS ks fs t r l=0):=zH (HNO.o (lstep_up_no (fun h=>hf0 h.1)));go_upto_region 7 with fail;go_quiet (fail);obtain⟨w7,hw7⟩:∃v,w3.drewN nq=v:=⟨_,rfl⟩;rw[hw7];have bw7:zb w3 w7:=(by rw[<-hw7];exact below_drewN (zB _ _) nq);clear hw7;clear p0 p1 y0 y1 y2 y3 z0 z1 z2 z3 z4 z5 z6;obtain⟨p0,p1,⟨y0,y1,y2,y3⟩,⟨z0,z1,z2,z3,z4,z5,z6⟩⟩:=SC.o _ bw7;go_upto_region 11 with fail;go_quiet (fail);obtain⟨w11,hw11⟩:∃v,w7.drewN nq=v:=⟨_,rfl⟩;rw[hw11];have bw11:zb w3 w11:=(by rw[<-hw11];exact below_drewN bw7 nq);clear hw11;clear p0 p1 y0 y1 y2 y3 z0 z1 z2 z3 z4 z5 z6;obtain⟨p0,p1,⟨y0,y1,y2,y3⟩,⟨z0,z1,z2,z3,z4,z5,z6⟩⟩:=SC.o _ bw11;go_upto_region 15 with fail;go_quiet (fail);obtain⟨w15,hw15⟩:∃v,w11.drewN nq=v:=⟨_,rfl⟩;rw[hw15];have bw15:zb w3 w15:=(by rw[<-hw15];exact below_drewN bw11 nq);clear hw15;clear p0 p1 y0 y1 y2 y3 z0 z1 z2 z3 z4 z5 z6;obtain⟨p0,p1,⟨y0,y1,y2,y3⟩,⟨z0,z1,z2,z3,z4,z5,z6⟩⟩:=SC.o _ bw15;have HY:=zH (B03.o.trans (bw15.mono s03));go_wp2_with fail;go_ret;exact⟨by rw[HZ.o];rfl,HY.o⟩
  by_cases hk2:yk=2
  ·subst hk2
   as_aux_lemma =>
    go_upto_region 7 with fail;go_quiet (fail);obtain⟨w7,hw7⟩:∃v,w3.drewN nq=v:=⟨_,rfl⟩;rw[hw7];have bw7:zb w3 w7:=(by rw[<-hw7];exact below_drewN (zB _ _) nq);clear hw7;clear p0 p1 y0 y1 y2 y3 z0 z1 z2 z3 z4 z5 z6;obtain⟨p0,p1,⟨y0,y1,y2,y3⟩,⟨z0,z1,z2,z3,z4,z5,z6⟩⟩:=SC.o _ bw7;cases E with
    |false =>
     have HZ:Hid (folS ks fs t r l=0):=zH (HNO.o (lstep_to_no (fun h=>by have:=HEM.o;rw[Bool.and_eq_false_iff,Zf] at this;rcases this with h1 | h1;exact absurd h.1.1 (by rw[h1];decide);exact h1 h.1.2)));go_upto_region 11 with fail;go_quiet (fail);obtain⟨w11,hw11⟩:∃v,w7.drewN nq=v:=⟨_,rfl⟩;rw[hw11];have bw11:zb w3 w11:=(by rw[<-hw11];exact below_drewN bw7 nq);clear hw11;clear p0 p1 y0 y1 y2 y3 z0 z1 z2 z3 z4 z5 z6;obtain⟨p0,p1,⟨y0,y1,y2,y3⟩,⟨z0,z1,z2,z3,z4,z5,z6⟩⟩:=SC.o _ bw11;go_upto_region 15 with fail;go_quiet (fail);obtain⟨w15,hw15⟩:∃v,w11.drewN nq=v:=⟨_,rfl⟩;rw[hw15];have bw15:zb w3 w15:=(by rw[<-hw15];exact below_drewN bw11 nq);clear hw15;clear p0 p1 y0 y1 y2 y3 z0 z1 z2 z3 z4 z5 z6;obtain⟨p0,p1,⟨y0,y1,y2,y3⟩,⟨z0,z1,z2,z3,z4,z5,z6⟩⟩:=SC.o _ bw15;have HY:=zH (B03.o.trans (bw15.mono s03));go_wp2_with fail;go_ret;exact⟨by rw[HZ.o];rfl,HY.o⟩
    |true =>
     by_cases hn0:0<=yf
     ·obtain⟨m,rfl⟩:∃m:Nat,yf=(m:Int):=⟨yf.toNat,by omega⟩;have n1:decide ((m:Int)≥0)=true:=Zt (by omega);have n2:decide ((0:Int)<=(m:Int))=true:=Zt (by omega);by_cases hm:m<fs.length
      ·have n3:decide ((m:Int)<(fs.length:Int))=true:=Zt (by omega);have n4:decide (m<fs.length)=true:=Zt (by omega);have n5:(m:Int)<(fs.length:Int):=(by omega);obtain⟨bf,fo,rfl,hbf,⟨kl,nl,pl,tl,Al,cl',kr,nr,pr,tr,Ar',cr2,el,er,⟨c0',c1',c2',c3'⟩,c4',⟨c5',c6',c7',c8'⟩,vl,vr'⟩,hsl,hsr'⟩:=HF.o m hm;obtain⟨ff,hfm⟩:∃ff,fs.getD m noFact=ff:=⟨_,rfl⟩;rw[hfm] at el er c4' vl vr' hsl hsr';obtain⟨fl,frel,fr⟩:=ff;simp only at el er c4' vl vr' hsl hsr';have HEL:=zH el;have HER:=zH er;have HVL:=zH vl.toV;have HVR':=zH vr'.toV;have HSL:=zH hsl;have HSR:=zH hsr';have HFM:=zH hfm;clear el er vl vr' hsl hsr' hfm;have FC:Hid (∀W,zb w3 W->zc W bf (fo+m*9) (zI kl)/\zc W bf (fo+m*9+1) (S nl)/\zc W bf (fo+m*9+2) (zI pl)/\zc W bf (fo+m*9+3) (.slice Al tl.length cl')/\zc W bf (fo+m*9+4) (zI frel)/\zc W bf (fo+m*9+5) (zI kr)/\zc W bf (fo+m*9+6) (S nr)/\zc W bf (fo+m*9+7) (zI pr)/\zc W bf (fo+m*9+8) (.slice Ar' tr.length cr2)):=zH (fun W hW=>by
        have hbW:=B03.o.trans (hW.mono s03);exact⟨(hbW.cell (p:=⟨bf,fo+m*9,none⟩) hbf).trans c0',(hbW.cell (p:=⟨bf,fo+m*9+1,none⟩) hbf).trans c1',(hbW.cell (p:=⟨bf,fo+m*9+2,none⟩) hbf).trans c2',(hbW.cell (p:=⟨bf,fo+m*9+3,none⟩) hbf).trans c3',(hbW.cell (p:=⟨bf,fo+m*9+4,none⟩) hbf).trans c4',(hbW.cell (p:=⟨bf,fo+m*9+5,none⟩) hbf).trans c5',(hbW.cell (p:=⟨bf,fo+m*9+6,none⟩) hbf).trans c6',(hbW.cell (p:=⟨bf,fo+m*9+7,none⟩) hbf).trans c7',(hbW.cell (p:=⟨bf,fo+m*9+8,none⟩) hbf).trans c8'⟩)
       clear c0' c1' c2' c3' c4' c5' c6' c7' c8';obtain⟨a0,a1,a2,a3,a4,a5,a6,a7,a8⟩:=FC.o _ bw7;go_upto_region 11 with fail;refine Zs 32 ?_;simp only[Zc,List.take_zero,List.drop_succ_cons,List.drop_zero];change wpStill Tryz.prog _ w7.drew _ _ _;repeat still_step
       try refine wpStill_nil ?_
       change wpList _ _ _ _ _ w7.drew;clear a0 a1 a2 a3 a4 a5 a6 a7 a8;obtain⟨w4,hw4⟩:∃v,w7.drew=v:=⟨_,rfl⟩;rw[hw4];have bw4:zb w3 w4:=(by rw[<-hw4];exact bw7.drew);clear hw4;clear p0 p1 y0 y1 y2 y3 z0 z1 z2 z3 z4 z5 z6;obtain⟨p0,p1,⟨y0,y1,y2,y3⟩,⟨z0,z1,z2,z3,z4,z5,z6⟩⟩:=SC.o _ bw4;obtain⟨g,hg⟩:∃g,Raw.tsm x fl=g:=⟨_,rfl⟩;have CS4:=zH (CS.o _ (B03.o.trans (bw4.mono s03)) _ _ HVL.o);rw[hg] at CS4;have HG:=zH hg;clear hg;go_wp2_with fail;refine CS4.o.mono ?_;rintro e w5⟨rfl,b5'⟩;have b5:zb w3 w5:=bw4.trans (b5'.mono bw4.size);clear b5' CS4;clear p0 p1 y0 y1 y2 y3 z0 z1 z2 z3 z4 z5 z6;obtain⟨p0,p1,⟨y0,y1,y2,y3⟩,⟨z0,z1,z2,z3,z4,z5,z6⟩⟩:=SC.o _ b5;have n1':(0:Int)<=(m:Int):=zP _;cases g with
       |true =>
        by_cases hr:frel=1
        ·have n7:(frel == 1)=true:=(by simpa using hr);have n8:decide (frel=1)=true:=(by simpa using hr);obtain⟨a0,a1,a2,a3,a4,a5,a6,a7,a8⟩:=FC.o _ b5;go_upto_region 12 with fail;go_quiet (fail);clear a0 a1 a2 a3 a4 a5 a6 a7 a8;obtain⟨w12,hw12⟩:∃v,w5.drewN nq=v:=⟨_,rfl⟩;rw[hw12];have bw12:zb w3 w12:=(by rw[<-hw12];exact below_drewN b5 nq);clear hw12;clear p0 p1 y0 y1 y2 y3 z0 z1 z2 z3 z4 z5 z6;obtain⟨p0,p1,⟨y0,y1,y2,y3⟩,⟨z0,z1,z2,z3,z4,z5,z6⟩⟩:=SC.o _ bw12;obtain⟨a0,a1,a2,a3,a4,a5,a6,a7,a8⟩:=FC.o _ bw12;go_upto_region 14 with fail;refine Zs 9 ?_;simp only[Zc,List.take_zero,List.drop_succ_cons,List.drop_zero];change wpStill Tryz.prog _ w12.drew _ _ _;repeat still_step
         try refine wpStill_nil ?_
         change wpList _ _ _ _ _ w12.drew;clear a0 a1 a2 a3 a4 a5 a6 a7 a8;obtain⟨w16,hw16⟩:∃v,w12.drew=v:=⟨_,rfl⟩;rw[hw16];have bw16:zb w3 w16:=(by rw[<-hw16];exact bw12.drew);clear hw16;clear p0 p1 y0 y1 y2 y3 z0 z1 z2 z3 z4 z5 z6;obtain⟨p0,p1,⟨y0,y1,y2,y3⟩,⟨z0,z1,z2,z3,z4,z5,z6⟩⟩:=SC.o _ bw16;obtain⟨s1,s2,s3,s4,k1,k2,k3,k4,⟨r0,r1,r2,r3⟩,⟨u0,u1,u2,u3⟩,hq4',ho⟩:=put4 ((bw16.block _ (by omega)).trans Q1.o) (zI kr) (S nr) (zI pr) (.slice Ar' tr.length cr2);have HN2:Hid (FoI w w1.heap.size cs ks fs t l (k+1) (if decide (frel=1) then 2 else z) s4):=zH (HST.o _ _ (lstep_to HFM.o ⟨by have:=HEM.o;rw[Za,Zd] at this;exact this,hm,HG.o⟩) _ _ _ _ _ _ _ HER.o HSR.o HVR'.o (Oth.below (B03.o.trans (bw16.mono s03)) ho (zN _) (zR s03 bw16.size)) hq4' (ho.heap ((bw16.block _ (by omega)).trans Q2.o) (by omega)));clear hq4' ho;have HN3:Hid (FoI w w1.heap.size cs ks fs t l (k+1) 2 s4):=zH (by have h:=HN2.o;rwa[n8,if_pos rfl] at h);clear HN2;go_wp2_with fail;go_roundw;case rel=>exact⟨k+1,2,by omega,rfl,by simp,HN3⟩
         case measure=>simp[intOf];omega
        have n7:(frel == 1)=false:=(by simpa using hr);have n8:decide (frel=1)=false:=(by simpa using hr);obtain⟨a0,a1,a2,a3,a4,a5,a6,a7,a8⟩:=FC.o _ b5;go_upto_region 12 with fail;go_quiet (fail);clear a0 a1 a2 a3 a4 a5 a6 a7 a8;obtain⟨w12,hw12⟩:∃v,w5.drewN nq=v:=⟨_,rfl⟩;rw[hw12];have bw12:zb w3 w12:=(by rw[<-hw12];exact below_drewN b5 nq);clear hw12;clear p0 p1 y0 y1 y2 y3 z0 z1 z2 z3 z4 z5 z6;obtain⟨p0,p1,⟨y0,y1,y2,y3⟩,⟨z0,z1,z2,z3,z4,z5,z6⟩⟩:=SC.o _ bw12;obtain⟨a0,a1,a2,a3,a4,a5,a6,a7,a8⟩:=FC.o _ bw12;go_upto_region 14 with fail;refine Zs 9 ?_;simp only[Zc,List.take_zero,List.drop_succ_cons,List.drop_zero];change wpStill Tryz.prog _ w12.drew _ _ _;repeat still_step
        try refine wpStill_nil ?_
        change wpList _ _ _ _ _ w12.drew;clear a0 a1 a2 a3 a4 a5 a6 a7 a8;obtain⟨w16,hw16⟩:∃v,w12.drew=v:=⟨_,rfl⟩;rw[hw16];have bw16:zb w3 w16:=(by rw[<-hw16];exact bw12.drew);clear hw16;clear p0 p1 y0 y1 y2 y3 z0 z1 z2 z3 z4 z5 z6;obtain⟨p0,p1,⟨y0,y1,y2,y3⟩,⟨z0,z1,z2,z3,z4,z5,z6⟩⟩:=SC.o _ bw16;obtain⟨s1,s2,s3,s4,k1,k2,k3,k4,⟨r0,r1,r2,r3⟩,⟨u0,u1,u2,u3⟩,hq4',ho⟩:=put4 ((bw16.block _ (by omega)).trans Q1.o) (zI kr) (S nr) (zI pr) (.slice Ar' tr.length cr2);have HN2:Hid (FoI w w1.heap.size cs ks fs t l (k+1) (if decide (frel=1) then 2 else z) s4):=zH (HST.o _ _ (lstep_to HFM.o ⟨by have:=HEM.o;rw[Za,Zd] at this;exact this,hm,HG.o⟩) _ _ _ _ _ _ _ HER.o HSR.o HVR'.o (Oth.below (B03.o.trans (bw16.mono s03)) ho (zN _) (zR s03 bw16.size)) hq4' (ho.heap ((bw16.block _ (by omega)).trans Q2.o) (by omega)));clear hq4' ho;have HN3:Hid (FoI w w1.heap.size cs ks fs t l (k+1) z s4):=zH (by have h:=HN2.o;rwa[n8,if_neg (by decide)] at h);clear HN2;go_wp2_with fail;go_roundw;case rel=>exact⟨k+1,z,by omega,rfl,by simp,HN3⟩
        case measure=>simp[intOf];omega
       |false =>
        have HZ:Hid (folS ks fs t r l=0):=zH (HNO.o (lstep_to_no (fun h=>by have:=h.2.2;rw[Int.toNat_natCast,HFM.o] at this;exact absurd (HG.o.symm.trans this) (by decide))));go_upto_region 15 with fail;go_quiet (fail);obtain⟨w15,hw15⟩:∃v,w5.drewN nq=v:=⟨_,rfl⟩;rw[hw15];have bw15:zb w3 w15:=(by rw[<-hw15];exact below_drewN b5 nq);clear hw15;clear p0 p1 y0 y1 y2 y3 z0 z1 z2 z3 z4 z5 z6;obtain⟨p0,p1,⟨y0,y1,y2,y3⟩,⟨z0,z1,z2,z3,z4,z5,z6⟩⟩:=SC.o _ bw15;have HY:=zH (B03.o.trans (bw15.mono s03));go_wp2_with fail;go_ret;exact⟨by rw[HZ.o];rfl,HY.o⟩
      have n3:decide ((m:Int)<(fs.length:Int))=false:=Zu (by omega);have n4:decide (m<fs.length)=false:=Zu (by omega);have HZ:Hid (folS ks fs t r l=0):=zH (HNO.o (lstep_to_no (fun h=>by have:=h.2.1.2;omega)));go_upto_region 11 with fail;go_quiet (fail);obtain⟨w11,hw11⟩:∃v,w7.drewN nq=v:=⟨_,rfl⟩;rw[hw11];have bw11:zb w3 w11:=(by rw[<-hw11];exact below_drewN bw7 nq);clear hw11;clear p0 p1 y0 y1 y2 y3 z0 z1 z2 z3 z4 z5 z6;obtain⟨p0,p1,⟨y0,y1,y2,y3⟩,⟨z0,z1,z2,z3,z4,z5,z6⟩⟩:=SC.o _ bw11;go_upto_region 15 with fail;go_quiet (fail);obtain⟨w15,hw15⟩:∃v,w11.drewN nq=v:=⟨_,rfl⟩;rw[hw15];have bw15:zb w3 w15:=(by rw[<-hw15];exact below_drewN bw11 nq);clear hw15;clear p0 p1 y0 y1 y2 y3 z0 z1 z2 z3 z4 z5 z6;obtain⟨p0,p1,⟨y0,y1,y2,y3⟩,⟨z0,z1,z2,z3,z4,z5,z6⟩⟩:=SC.o _ bw15;have HY:=zH (B03.o.trans (bw15.mono s03));go_wp2_with fail;go_ret;exact⟨by rw[HZ.o];rfl,HY.o⟩
     have n1:decide (yf≥0)=false:=Zu (by omega);have n2:decide (0<=yf)=false:=Zu (by omega);have HZ:Hid (folS ks fs t r l=0):=zH (HNO.o (lstep_to_no (fun h=>hn0 h.2.1.1)));go_upto_region 11 with fail;go_quiet (fail);obtain⟨w11,hw11⟩:∃v,w7.drewN nq=v:=⟨_,rfl⟩;rw[hw11];have bw11:zb w3 w11:=(by rw[<-hw11];exact below_drewN bw7 nq);clear hw11;clear p0 p1 y0 y1 y2 y3 z0 z1 z2 z3 z4 z5 z6;obtain⟨p0,p1,⟨y0,y1,y2,y3⟩,⟨z0,z1,z2,z3,z4,z5,z6⟩⟩:=SC.o _ bw11;go_upto_region 15 with fail;go_quiet (fail);obtain⟨w15,hw15⟩:∃v,w11.drewN nq=v:=⟨_,rfl⟩;rw[hw15];have bw15:zb w3 w15:=(by rw[<-hw15];exact below_drewN bw11 nq);clear hw15;clear p0 p1 y0 y1 y2 y3 z0 z1 z2 z3 z4 z5 z6;obtain⟨p0,p1,⟨y0,y1,y2,y3⟩,⟨z0,z1,z2,z3,z4,z5,z6⟩⟩:=SC.o _ bw15;have HY:=zH (B03.o.trans (bw15.mono s03));go_wp2_with fail;go_ret;exact⟨by rw[HZ.o];rfl,HY.o⟩
  by_cases hk3:yk=3
  ·subst hk3
   as_aux_lemma =>
    go_upto_region 7 with fail;go_quiet (fail);obtain⟨w7,hw7⟩:∃v,w3.drewN nq=v:=⟨_,rfl⟩;rw[hw7];have bw7:zb w3 w7:=(by rw[<-hw7];exact below_drewN (zB _ _) nq);clear hw7;clear p0 p1 y0 y1 y2 y3 z0 z1 z2 z3 z4 z5 z6;obtain⟨p0,p1,⟨y0,y1,y2,y3⟩,⟨z0,z1,z2,z3,z4,z5,z6⟩⟩:=SC.o _ bw7;go_upto_region 11 with fail;go_quiet (fail);obtain⟨w11,hw11⟩:∃v,w7.drewN nq=v:=⟨_,rfl⟩;rw[hw11];have bw11:zb w3 w11:=(by rw[<-hw11];exact below_drewN bw7 nq);clear hw11;clear p0 p1 y0 y1 y2 y3 z0 z1 z2 z3 z4 z5 z6;obtain⟨p0,p1,⟨y0,y1,y2,y3⟩,⟨z0,z1,z2,z3,z4,z5,z6⟩⟩:=SC.o _ bw11;cases E with
    |false =>
     have HZ:Hid (folS ks fs t r l=0):=zH (HNO.o (lstep_bk_no (fun h=>by have:=HEM.o;rw[Bool.and_eq_false_iff,Zf] at this;rcases this with h1 | h1;exact absurd h.1.1 (by rw[h1];decide);exact h1 h.1.2)));go_upto_region 15 with fail;go_quiet (fail);obtain⟨w15,hw15⟩:∃v,w11.drewN nq=v:=⟨_,rfl⟩;rw[hw15];have bw15:zb w3 w15:=(by rw[<-hw15];exact below_drewN bw11 nq);clear hw15;clear p0 p1 y0 y1 y2 y3 z0 z1 z2 z3 z4 z5 z6;obtain⟨p0,p1,⟨y0,y1,y2,y3⟩,⟨z0,z1,z2,z3,z4,z5,z6⟩⟩:=SC.o _ bw15;have HY:=zH (B03.o.trans (bw15.mono s03));go_wp2_with fail;go_ret;exact⟨by rw[HZ.o];rfl,HY.o⟩
    |true =>
     by_cases hn0:0<=yf
     ·obtain⟨m,rfl⟩:∃m:Nat,yf=(m:Int):=⟨yf.toNat,by omega⟩;have n1:decide ((m:Int)≥0)=true:=Zt (by omega);have n2:decide ((0:Int)<=(m:Int))=true:=Zt (by omega);by_cases hm:m<fs.length
      ·have n3:decide ((m:Int)<(fs.length:Int))=true:=Zt (by omega);have n4:decide (m<fs.length)=true:=Zt (by omega);have n5:(m:Int)<(fs.length:Int):=(by omega);obtain⟨bf,fo,rfl,hbf,⟨kl,nl,pl,tl,Al,cl',kr,nr,pr,tr,Ar',cr2,el,er,⟨c0',c1',c2',c3'⟩,c4',⟨c5',c6',c7',c8'⟩,vl,vr'⟩,hsl,hsr'⟩:=HF.o m hm;obtain⟨ff,hfm⟩:∃ff,fs.getD m noFact=ff:=⟨_,rfl⟩;rw[hfm] at el er c4' vl vr' hsl hsr';obtain⟨fl,frel,fr⟩:=ff;simp only at el er c4' vl vr' hsl hsr';have HEL:=zH el;have HER:=zH er;have HVL:=zH vl.toV;have HVR':=zH vr'.toV;have HSL:=zH hsl;have HSR:=zH hsr';have HFM:=zH hfm;clear el er vl vr' hsl hsr' hfm;have FC:Hid (∀W,zb w3 W->zc W bf (fo+m*9) (zI kl)/\zc W bf (fo+m*9+1) (S nl)/\zc W bf (fo+m*9+2) (zI pl)/\zc W bf (fo+m*9+3) (.slice Al tl.length cl')/\zc W bf (fo+m*9+4) (zI frel)/\zc W bf (fo+m*9+5) (zI kr)/\zc W bf (fo+m*9+6) (S nr)/\zc W bf (fo+m*9+7) (zI pr)/\zc W bf (fo+m*9+8) (.slice Ar' tr.length cr2)):=zH (fun W hW=>by
        have hbW:=B03.o.trans (hW.mono s03);exact⟨(hbW.cell (p:=⟨bf,fo+m*9,none⟩) hbf).trans c0',(hbW.cell (p:=⟨bf,fo+m*9+1,none⟩) hbf).trans c1',(hbW.cell (p:=⟨bf,fo+m*9+2,none⟩) hbf).trans c2',(hbW.cell (p:=⟨bf,fo+m*9+3,none⟩) hbf).trans c3',(hbW.cell (p:=⟨bf,fo+m*9+4,none⟩) hbf).trans c4',(hbW.cell (p:=⟨bf,fo+m*9+5,none⟩) hbf).trans c5',(hbW.cell (p:=⟨bf,fo+m*9+6,none⟩) hbf).trans c6',(hbW.cell (p:=⟨bf,fo+m*9+7,none⟩) hbf).trans c7',(hbW.cell (p:=⟨bf,fo+m*9+8,none⟩) hbf).trans c8'⟩)
       clear c0' c1' c2' c3' c4' c5' c6' c7' c8';by_cases hr:frel=3
       ·subst hr;obtain⟨a0,a1,a2,a3,a4,a5,a6,a7,a8⟩:=FC.o _ bw11;go_upto_region 15 with fail;refine Zs 44 ?_;simp only[Zc,List.take_zero,List.drop_succ_cons,List.drop_zero];change wpStill Tryz.prog _ w11.drew _ _ _;repeat still_step
        try refine wpStill_nil ?_
        change wpList _ _ _ _ _ w11.drew;clear a0 a1 a2 a3 a4 a5 a6 a7 a8;obtain⟨w4,hw4⟩:∃v,w11.drew=v:=⟨_,rfl⟩;rw[hw4];have bw4:zb w3 w4:=(by rw[<-hw4];exact bw11.drew);clear hw4;clear p0 p1 y0 y1 y2 y3 z0 z1 z2 z3 z4 z5 z6;obtain⟨p0,p1,⟨y0,y1,y2,y3⟩,⟨z0,z1,z2,z3,z4,z5,z6⟩⟩:=SC.o _ bw4;obtain⟨g,hg⟩:∃g,Raw.tsm x fr=g:=⟨_,rfl⟩;have CS4:=zH (CS.o _ (B03.o.trans (bw4.mono s03)) _ _ HVR'.o);rw[hg] at CS4;have HG:=zH hg;clear hg;go_wp2_with fail;refine CS4.o.mono ?_;rintro e w5⟨rfl,b5'⟩;have b5:zb w3 w5:=bw4.trans (b5'.mono bw4.size);clear b5' CS4;clear p0 p1 y0 y1 y2 y3 z0 z1 z2 z3 z4 z5 z6;obtain⟨p0,p1,⟨y0,y1,y2,y3⟩,⟨z0,z1,z2,z3,z4,z5,z6⟩⟩:=SC.o _ b5;have n1':(0:Int)<=(m:Int):=zP _;cases g with
        |true =>
         obtain⟨a0,a1,a2,a3,a4,a5,a6,a7,a8⟩:=FC.o _ b5;go_upto_region 16 with fail;refine Zs 9 ?_;simp only[Zc,List.take_zero,List.drop_succ_cons,List.drop_zero];change wpStill Tryz.prog _ w5.drew _ _ _;repeat still_step
         try refine wpStill_nil ?_
         change wpList _ _ _ _ _ w5.drew;clear a0 a1 a2 a3 a4 a5 a6 a7 a8;obtain⟨w16,hw16⟩:∃v,w5.drew=v:=⟨_,rfl⟩;rw[hw16];have bw16:zb w3 w16:=(by rw[<-hw16];exact b5.drew);clear hw16;clear p0 p1 y0 y1 y2 y3 z0 z1 z2 z3 z4 z5 z6;obtain⟨p0,p1,⟨y0,y1,y2,y3⟩,⟨z0,z1,z2,z3,z4,z5,z6⟩⟩:=SC.o _ bw16;obtain⟨s1,s2,s3,s4,k1,k2,k3,k4,⟨r0,r1,r2,r3⟩,⟨u0,u1,u2,u3⟩,hq4',ho⟩:=put4 ((bw16.block _ (by omega)).trans Q1.o) (zI kl) (S nl) (zI pl) (.slice Al tl.length cl');have HN2:Hid (FoI w w1.heap.size cs ks fs t l (k+1) (if false then 2 else z) s4):=zH (HST.o _ _ (lstep_bk HFM.o ⟨by have:=HEM.o;rw[Za,Zd] at this;exact this,hm,HG.o⟩) _ _ _ _ _ _ _ HEL.o HSL.o HVL.o (Oth.below (B03.o.trans (bw16.mono s03)) ho (zN _) (zR s03 bw16.size)) hq4' (ho.heap ((bw16.block _ (by omega)).trans Q2.o) (by omega)));clear hq4' ho;have HN3:Hid (FoI w w1.heap.size cs ks fs t l (k+1) z s4):=zH (by have h:=HN2.o;rwa[if_neg (by decide)] at h);clear HN2;go_wp2_with fail;go_roundw;case rel=>exact⟨k+1,z,by omega,rfl,by simp,HN3⟩
         case measure=>simp[intOf];omega
        |false =>
         have HZ:Hid (folS ks fs t r l=0):=zH (HNO.o (lstep_bk_no (fun h=>by have:=h.2.2.2;rw[Int.toNat_natCast,HFM.o] at this;exact absurd (HG.o.symm.trans this) (by decide))));have HY:=zH (B03.o.trans (b5.mono s03));go_wp2_with fail;go_ret;exact⟨by rw[HZ.o];rfl,HY.o⟩
       have n7:(frel == 3)=false:=(by simpa using hr);have n8:decide (frel=3)=false:=(by simpa using hr);obtain⟨a0,a1,a2,a3,a4,a5,a6,a7,a8⟩:=FC.o _ bw11;have HZ:Hid (folS ks fs t r l=0):=zH (HNO.o (lstep_bk_no (fun h=>by have:=h.2.2.1;rw[Int.toNat_natCast,HFM.o] at this;exact hr this)));go_upto_region 15 with fail;go_quiet (fail);obtain⟨w15,hw15⟩:∃v,w11.drewN nq=v:=⟨_,rfl⟩;rw[hw15];have bw15:zb w3 w15:=(by rw[<-hw15];exact below_drewN bw11 nq);clear hw15;clear p0 p1 y0 y1 y2 y3 z0 z1 z2 z3 z4 z5 z6;obtain⟨p0,p1,⟨y0,y1,y2,y3⟩,⟨z0,z1,z2,z3,z4,z5,z6⟩⟩:=SC.o _ bw15;have HY:=zH (B03.o.trans (bw15.mono s03));go_wp2_with fail;go_ret;exact⟨by rw[HZ.o];rfl,HY.o⟩
      have n3:decide ((m:Int)<(fs.length:Int))=false:=Zu (by omega);have n4:decide (m<fs.length)=false:=Zu (by omega);have HZ:Hid (folS ks fs t r l=0):=zH (HNO.o (lstep_bk_no (fun h=>by have:=h.2.1.2;omega)));go_upto_region 15 with fail;go_quiet (fail);obtain⟨w15,hw15⟩:∃v,w11.drewN nq=v:=⟨_,rfl⟩;rw[hw15];have bw15:zb w3 w15:=(by rw[<-hw15];exact below_drewN bw11 nq);clear hw15;clear p0 p1 y0 y1 y2 y3 z0 z1 z2 z3 z4 z5 z6;obtain⟨p0,p1,⟨y0,y1,y2,y3⟩,⟨z0,z1,z2,z3,z4,z5,z6⟩⟩:=SC.o _ bw15;have HY:=zH (B03.o.trans (bw15.mono s03));go_wp2_with fail;go_ret;exact⟨by rw[HZ.o];rfl,HY.o⟩
     have n1:decide (yf≥0)=false:=Zu (by omega);have n2:decide (0<=yf)=false:=Zu (by omega);have HZ:Hid (folS ks fs t r l=0):=zH (HNO.o (lstep_bk_no (fun h=>hn0 h.2.1.1)));go_upto_region 15 with fail;go_quiet (fail);obtain⟨w15,hw15⟩:∃v,w11.drewN nq=v:=⟨_,rfl⟩;rw[hw15];have bw15:zb w3 w15:=(by rw[<-hw15];exact below_drewN bw11 nq);clear hw15;clear p0 p1 y0 y1 y2 y3 z0 z1 z2 z3 z4 z5 z6;obtain⟨p0,p1,⟨y0,y1,y2,y3⟩,⟨z0,z1,z2,z3,z4,z5,z6⟩⟩:=SC.o _ bw15;have HY:=zH (B03.o.trans (bw15.mono s03));go_wp2_with fail;go_ret;exact⟨by rw[HZ.o];rfl,HY.o⟩
  have m1:(yk == 1)=false:=by simpa using hk1
  have o1:decide (yk=1)=false:=by simpa using hk1
  have m2:(yk == 2)=false:=by simpa using hk2
  have o2:decide (yk=2)=false:=by simpa using hk2
  have m3:(yk == 3)=false:=by simpa using hk3
  have o3:decide (yk=3)=false:=by simpa using hk3
  have HZ:Hid (folS ks fs t r l=0):=zH (HNO.o (lstep_else hk1 hk2 hk3));go_upto_region 7 with fail;go_quiet (fail);obtain⟨w7,hw7⟩:∃v,w3.drewN nq=v:=⟨_,rfl⟩;rw[hw7];have bw7:zb w3 w7:=by rw[<-hw7];exact below_drewN (zB _ _) nq
  clear hw7;clear p0 p1 y0 y1 y2 y3 z0 z1 z2 z3 z4 z5 z6;obtain⟨p0,p1,⟨y0,y1,y2,y3⟩,⟨z0,z1,z2,z3,z4,z5,z6⟩⟩:=SC.o _ bw7;go_upto_region 11 with fail;go_quiet (fail);obtain⟨w11,hw11⟩:∃v,w7.drewN nq=v:=⟨_,rfl⟩;rw[hw11];have bw11:zb w3 w11:=by rw[<-hw11];exact below_drewN bw7 nq
  clear hw11;clear p0 p1 y0 y1 y2 y3 z0 z1 z2 z3 z4 z5 z6;obtain⟨p0,p1,⟨y0,y1,y2,y3⟩,⟨z0,z1,z2,z3,z4,z5,z6⟩⟩:=SC.o _ bw11;go_upto_region 15 with fail;go_quiet (fail);obtain⟨w15,hw15⟩:∃v,w11.drewN nq=v:=⟨_,rfl⟩;rw[hw15];have bw15:zb w3 w15:=by rw[<-hw15];exact below_drewN bw11 nq
  clear hw15;clear p0 p1 y0 y1 y2 y3 z0 z1 z2 z3 z4 z5 z6;obtain⟨p0,p1,⟨y0,y1,y2,y3⟩,⟨z0,z1,z2,z3,z4,z5,z6⟩⟩:=SC.o _ bw15;have HY:=zH (B03.o.trans (bw15.mono s03));go_wp2_with fail;go_ret;exact⟨by rw[HZ.o];rfl,HY.o⟩
 have hkN:k=N:=by omega
 have HFO:Hid (folS ks fs t r l=if Raw.tsm x r=true then z else 0):=zH (by have h:=HFOL.o;rw[List.take_of_length_le (by rw[HN.o];omega)] at h;unfold folS;rw[h]);obtain⟨g,hg⟩:∃g,Raw.tsm x r=g:=⟨_,rfl⟩;have CS:Hid (Calls Tryz.prog 167 #[.agg (zT kx nx px Ax xv cx),.agg (zT kd' nm' ps' Ar ys cr')] wr fun e w'=>e=.returned (.bool g)/\zb wr w'):=zH (by rw[<-hg];exact tSame_upto _ (zR HSX.o (by decide)) x r _ _ wr (zN _) (HVX.o.below HBW.o) (HVR.o.below HBW.o));rw[hg] at HFO;rw[<-HCS.o] at hq2;obtain⟨y0,y1,y2,y3⟩:=cells4t hq1;obtain⟨z0,z1,z2,z3⟩:=cells4t hq2;have hi0:¬((k:Int)<(N:Int)):=by omega
 clear hg hfol hx hsx hvx hbw hq1 hq2 HI hkN;go_wp2_with fail;refine CS.o.mono ?_;rintro e w5⟨rfl,b5⟩;have HZ:=zH (HBW.o.trans (b5.mono HBW.o.size));cases g with
 |true =>
  have HR:Hid (folS ks fs t r l=z):=zH (by rw[HFO.o,if_pos rfl]);clear HFO;go_wp2_with fail;go_ret;exact⟨by rw[HR.o];rfl,HZ.o⟩
 |false =>
  have HR:Hid (folS ks fs t r l=0):=zH (by rw[HFO.o,if_neg (by decide)]);clear HFO;go_wp2_with fail;go_ret;exact⟨by rw[HR.o];rfl,HZ.o⟩
end Go.Proofs.YtadjpadieljjlaaGreat
namespace Lfc
theorem fol_12{ks:List Int}{fs:List Fact}:∀(ch:List Link)(x y:Raw)(s t:Int),(s=1∨s=2)→fol ks fs x ch s=some (y,t)→t=1∨t=2
 |[],x,y,s,t,hs,h=>by
  rw[fol] at h;injection h with h;injection h with e1 e2;rw[←e2];exact hs
 |k :: r,x,y,s,t,hs,h=>by
  rw[fol] at h;cases hl:lstep ks fs x k with
  |none=>rw[hl] at h;cases h
  |some q =>
   rw[hl] at h;refine fol_12 r q.1 y _ t ?_ h;split
   ·exact .inr rfl
   exact hs
theorem folS_12(ks:List Int)(fs:List Fact)(l r:Raw)(ch:List Link):folS ks fs l r ch=0∨folS ks fs l r ch=1∨folS ks fs l r ch=2:=by
 unfold folS;cases h:fol ks fs l ch 1 with
 |none=>exact .inl rfl
 |some q =>
  have:=fol_12 ch l q.1 1 q.2 (.inl rfl) h;simp only;split
  ·exact .inr this
  exact .inl rfl
theorem getD_at{ts:List Raw}{i:Nat}(h:i<ts.length):ts.getD i blk=ts[i]:=by rw[List.getD_eq_getElem?_getD,List.getElem?_eq_getElem h,Option.getD_some]
theorem vrf_arg(ks:List Int)(fs:List Fact)(ts us:List Raw){i j:Nat}(hi:i<ts.length)(hj:j<us.length)(rel ix:Int)(ps:List Prf)(ch bk:List Link) :
  vrf ks fs ts us (.arg i j) rel (.node ix ps ch bk)=(!(((!(decide (ix=0)) || !(decide (ps.length=0))) || decide (folS ks fs ts[i] us[j] ch=0)) || (decide (rel=1) && !(decide (folS ks fs ts[i] us[j] ch=2)))) && (if rel=3 then !(decide (folS ks fs us[j] ts[i] bk=0)) else decide (bk.length=0))):=by
 rw[vrf,getD_at hi,getD_at hj];rw[Bool.eq_iff_iff];by_cases h3:rel=3
 ·simp[h3]
 simp[h3];by_cases h1:rel=1
 ·simp[h1,and_assoc]
 simp[h1]
end Lfc
namespace Go.Proofs.YtadjpadieljjlaaGreat
open Go.RowKit Go.Maps _root_.Lfc
theorem intCaseV(k m:Int):∃b,(k == m)=b∧decide (k=m)=b∧(k != m)=(!b):=⟨_,rfl,by rw[Bool.eq_iff_iff];simp,rfl⟩
theorem gtCaseV(m:Nat):∃b,decide (m=0)=b∧decide ((m:Int)>0)=(!b)∧decide ((0:Int)<(m:Int))=(!b)∧decide (m>0)=(!b)∧decide (0<m)=(!b)∧((m:Int) == 0)=b:=by
 by_cases h:m=0
 ·subst h;exact⟨true,rfl,rfl,rfl,rfl,rfl,rfl⟩
 exact⟨false,by simpa using h,by simp;omega,by simp;omega,by simp;omega,by simp;omega,by simp;omega⟩
theorem oArgV_any(q:Nat->Prop)(Bx i j:Nat)(F A0 L R:Option Addr)(f0 c0 cl cr:Nat)(fs:List Fact)(ks:List Int)(ts us:List Raw)(rel ix:Int)(ps:List Prf)(ch bk:List Link)(Aq A1 A2:Option Addr)(cq cc1 cc2:Nat)(w:World)
  (hfn:fs.length<=1000000) (hks:ks.length<=1000000) (hfs:∀f∈fs,f.l.size<=1000000/\f.r.size<=1000000) (hcl:ch.length<=1000000) (hbl:bk.length<=1000000) (hcs:∀x∈ch,x.term.size<=1000000/\x.path.length<=1000000) (hbs:∀x∈bk,x.term.size<=1000000/\x.path.length<=1000000) (hpl:ps.length<=1000000)
  (hP:PvV w Bx F A0 L R f0 c0 cl cr fs ks ts us) (hi:i<ts.length) (hj:j<us.length) (hsi:ts[i].size<=1000000) (hsj:us[j].size<=1000000) (hil:i<=1000000) (hjl:j<=1000000)
  (hrel:rel=1\/rel=2\/rel=3) (hc:LinksP q w A1 ch) (hk:LinksP q w A2 bk) :
  Calls Tryz.prog 159 #[.agg #[zI (i:Int),zI (j:Int)],.pointer (some ⟨Bx,0,none⟩),zI rel,.agg #[zI ix,.slice Aq ps.length cq,.slice A1 ch.length cc1,.slice A2 bk.length cc2]] w fun e w'=>e=.returned (.bool (vrf ks fs ts us (.arg i j) rel (.node ix ps ch bk)))/\zb w w':=by
 have HA:=vrf_arg ks fs ts us hi hj rel ix ps ch bk;obtain⟨ans,hans⟩:∃a,vrf ks fs ts us (.arg i j) rel (.node ix ps ch bk)=a:=⟨_,rfl⟩;rw[hans] at HA ⊢;clear hans;obtain⟨np,hnp⟩:∃n,ps.length=n:=⟨_,rfl⟩;rw[hnp] at HA hpl ⊢;clear hnp;have HC:=zH hc;have HK:=zH hk;clear hc hk;obtain⟨b,o,k1,n1,p1,xs,B,c1,rfl,hb,d0,d1,d2,d3,hT,_⟩:=treesAtP_at hP.ts hi;obtain⟨b',o',k2,n2,p2,ys,B',c2,rfl,hb',e0,e1,e2,e3,hT',_⟩:=treesAtP_at hP.us hj;obtain⟨t,hT0⟩:∃t,ts[i]=t:=⟨_,rfl⟩;obtain⟨u,hU0⟩:∃u,us[j]=u:=⟨_,rfl⟩;rw[hT0] at hsi hT HA;rw[hU0] at hsj hT' HA;have HP:=zH hP;have HT:=zH hT;have HT':=zH hT';obtain⟨nts,hnts⟩:∃n,ts.length=n:=⟨_,rfl⟩;obtain⟨nus,hnus⟩:∃n,us.length=n:=⟨_,rfl⟩;obtain⟨w1,hw1⟩:∃w1,w.alloc (.cells #[zI (i:Int),zI (j:Int)] 123)=w1:=⟨_,rfl⟩;obtain⟨w2,hw2⟩:∃w2,w1.alloc (.cells #[zI ix,.slice Aq np cq,.slice A1 ch.length cc1,.slice A2 bk.length cc2] 39)=w2:=⟨_,rfl⟩;have b1:=zG hw1;have b2:=zG hw2;have q1:=zQ hw1;have q2:=zQ hw2;have l1:=zL q1;have l2:=zL q2;have b02:zb w w2:=b1.trans (b2.mono (by omega));have B02:=zH b02;have s02:w.heap.size<=w2.heap.size:=by omega
 have Q2:=zH q2;obtain⟨y0,y1⟩:=cells2e ((b2.block _ l1).trans q1);have hp2:=hP.below b02;have x2:=hp2.left;have x3:=hp2.right;rw[hnts] at x2 hi;rw[hnus] at x3 hj;have f0':=(b02.cell (p:=⟨b,o+i*4,none⟩) hb).trans d0;have f1':=(b02.cell (p:=⟨b,o+i*4+1,none⟩) hb).trans d1;have f2':=(b02.cell (p:=⟨b,o+i*4+2,none⟩) hb).trans d2;have f3':=(b02.cell (p:=⟨b,o+i*4+3,none⟩) hb).trans d3;have g0':=(b02.cell (p:=⟨b',o'+j*4,none⟩) hb').trans e0;have g1':=(b02.cell (p:=⟨b',o'+j*4+1,none⟩) hb').trans e1;have g2':=(b02.cell (p:=⟨b',o'+j*4+2,none⟩) hb').trans e2;have g3':=(b02.cell (p:=⟨b',o'+j*4+3,none⟩) hb').trans e3;have SX:Hid ((zc w2 Bx 2 (.slice (some ⟨b,o,none⟩) nts cl)/\zc w2 Bx 3 (.slice (some ⟨b',o',none⟩) nus cr))/\(zc w2 w.heap.size 0 (zI (i:Int))/\zc w2 w.heap.size 1 (zI (j:Int)))/\(zc w2 b (o+i*4) (zI k1)/\zc w2 b (o+i*4+1) (S n1)/\zc w2 b (o+i*4+2) (zI p1)/\zc w2 b (o+i*4+3) (.slice B xs.length c1))/\(zc w2 b' (o'+j*4) (zI k2)/\zc w2 b' (o'+j*4+1) (S n2)/\zc w2 b' (o'+j*4+2) (zI p2)/\zc w2 b' (o'+j*4+3) (.slice B' ys.length c2))):=zH ⟨⟨x2,x3⟩,⟨y0,y1⟩,⟨f0',f1',f2',f3'⟩,⟨g0',g1',g2',g3'⟩⟩;have m1:=World.new_ne w2 _ x2;have m2:=World.new_ne w2 _ y0;have m3:=World.new_ne w2 _ f0';have m4:=World.new_ne w2 _ g0';simp only at m1 m2 m3 m4;have hi0:=zP i;have hi1:(i:Int)<(nts:Int):=by omega
 have hj0:=zP j;have hj1:(j:Int)<(nus:Int):=by omega
 have CHN:Hid (∀W,zb w W->Calls Tryz.prog 162 #[.pointer (some ⟨Bx,0,none⟩),.agg (zT k1 n1 p1 B xs c1),.agg (zT k2 n2 p2 B' ys c2),.slice A1 ch.length cc1] W fun e w'=>e=.returned (zI (folS ks fs t u ch))/\zb W w'):=zH (fun W hW=>oFollows_any q Bx F A0 _ _ f0 c0 cl cr fs ks ts us t u _ _ ch A1 cc1 W hfn hks hcl hfs hcs (HP.o.below hW) hsi hsj (HT.o.toV.below hW) (HT'.o.toV.below hW) (HC.o.below hW));have CHB:Hid (∀W,zb w W->Calls Tryz.prog 162 #[.pointer (some ⟨Bx,0,none⟩),.agg (zT k2 n2 p2 B' ys c2),.agg (zT k1 n1 p1 B xs c1),.slice A2 bk.length cc2] W fun e w'=>e=.returned (zI (folS ks fs u t bk))/\zb W w'):=zH (fun W hW=>oFollows_any q Bx F A0 _ _ f0 c0 cl cr fs ks ts us u t _ _ bk A2 cc2 W hfn hks hbl hfs hbs (HP.o.below hW) hsj hsi (HT'.o.toV.below hW) (HT.o.toV.below hW) (HK.o.below hW));clear hT hT' hP hp2 q1 q2 b1 b2 b02 d0 d1 d2 d3 e0 e1 e2 e3 hT0 hU0 hnts hnus hfs hcs hbs;go_enter Tryz.func159,Tryz.ntmps159;go_upto_region 1 with fail;clear hw1 hw2;go_cut [9,10] (fun a b wx=>Hid (TwoT w2 k1 p1 k2 p2 n1 n2 xs.length ys.length c1 c2 B B' a b wx));case first =>
  go_region_held3 (fun W=>(W.cell? ⟨Bx,2,none⟩=some (.slice (some ⟨b,o,none⟩) nts cl)/\W.cell? ⟨Bx,3,none⟩=some (.slice (some ⟨b',o',none⟩) nus cr))/\(W.cell? ⟨w.heap.size,0,none⟩=some (zI (i:Int))/\W.cell? ⟨w.heap.size,1,none⟩=some (zI (j:Int)))/\(W.cell? ⟨b,o+i*4,none⟩=some (zI k1)/\W.cell? ⟨b,o+i*4+1,none⟩=some (S n1)/\W.cell? ⟨b,o+i*4+2,none⟩=some (zI p1)/\W.cell? ⟨b,o+i*4+3,none⟩=some (.slice B xs.length c1))/\(W.cell? ⟨b',o'+j*4,none⟩=some (zI k2)/\W.cell? ⟨b',o'+j*4+1,none⟩=some (S n2)/\W.cell? ⟨b',o'+j*4+2,none⟩=some (zI p2)/\W.cell? ⟨b',o'+j*4+3,none⟩=some (.slice B' ys.length c2)))
   (first | exact SX.o | go_keep)
   (fail)
  ·obtain⟨w5,hw5⟩:∃w5,((w2.alloc (.cells (zT k1 n1 p1 B xs c1) 51)).alloc (.cells (zT k2 n2 p2 B' ys c2) 51)).drew=w5:=⟨_,rfl⟩;rw[hw5];have b5:zb w2 w5:=(by rw[<-hw5];exact(((zB _ _).alloc (zN _) _).alloc (by simp) _).drew);have qa:w5.heap[w2.heap.size]?=some (.cells (zT k1 n1 p1 B xs c1) 51 (0,0)):=by
    rw[<-hw5];exact(Below.heap_alloc _ _ _ (by simp)).trans (zW _ _)
   have qb:w5.heap[w2.heap.size+1]?=some (.cells (zT k2 n2 p2 B' ys c2) 51 (0,0)):=by
    rw[<-hw5];exact two_alloc _ _ _
   have HR:Hid (TwoT w2 k1 p1 k2 p2 n1 n2 xs.length ys.length c1 c2 B B' (.pointer (some ⟨w2.heap.size,0,none⟩)) (.pointer (some ⟨w2.heap.size+1,0,none⟩)) w5):=zH ⟨w2.heap.size,w2.heap.size+1,rfl,rfl,⟨by omega,by omega⟩,b5,qa,qb⟩;clear hw5 qa qb b5;go_wp2_with fail;go_meet;exact HR
  obtain⟨w5,hw5⟩:∃w5,((w2.alloc (.cells (zT k2 n2 p2 B' ys c2) 51)).alloc (.cells (zT k1 n1 p1 B xs c1) 51)).drew=w5:=⟨_,rfl⟩;rw[hw5];have b5:zb w2 w5:=by rw[<-hw5];exact(((zB _ _).alloc (zN _) _).alloc (by simp) _).drew
  have qa:w5.heap[w2.heap.size]?=some (.cells (zT k2 n2 p2 B' ys c2) 51 (0,0)):=by
   rw[<-hw5];exact(Below.heap_alloc _ _ _ (by simp)).trans (zW _ _)
  have qb:w5.heap[w2.heap.size+1]?=some (.cells (zT k1 n1 p1 B xs c1) 51 (0,0)):=by
   rw[<-hw5];exact two_alloc _ _ _
  have HR:Hid (TwoT w2 k1 p1 k2 p2 n1 n2 xs.length ys.length c1 c2 B B' (.pointer (some ⟨w2.heap.size+1,0,none⟩)) (.pointer (some ⟨w2.heap.size,0,none⟩)) w5):=zH ⟨w2.heap.size+1,w2.heap.size,rfl,rfl,⟨by omega,by omega⟩,b5,qb,qa⟩;clear hw5 qa qb b5;go_wp2_with fail;go_meet;exact HR
 obtain⟨ga,gb,rfl,rfl,⟨lga,lgb⟩,bc,qa,qb⟩:=hcut.o;clear hcut SX m1 m2 m3 m4 x2 x3 y0 y1 f0' f1' f2' f3' g0' g1' g2' g3';obtain⟨w5,hw5⟩:∃w5,w5=wc:=⟨_,rfl⟩;subst hw5;have s5:=bc.size;have b05:Hid (zb w w5):=zH (B02.o.trans (bc.mono s02));have s05:=b05.o.size;have QA:=zH qa;have QB:=zH qb;have la:=zL qa;have lb:=zL qb;have QP:Hid (zk w5 w1.heap.size #[zI ix,.slice Aq np cq,.slice A1 ch.length cc1,.slice A2 bk.length cc2] 39):=zH ((bc.block _ l2).trans Q2.o);have lp:w1.heap.size<w5.heap.size:=by omega
 obtain⟨y0,y1,y2,y3⟩:=cells4v qa;obtain⟨z0,z1,z2,z3⟩:=cells4v qb;obtain⟨x0,x1,x2,x3⟩:=cells4v QP.o;obtain⟨z,hz⟩:∃z,folS ks fs t u ch=z:=⟨_,rfl⟩;obtain⟨zbq,hzb⟩:∃z,folS ks fs u t bk=z:=⟨_,rfl⟩;have hz012:z=0\/z=1\/z=2:=by rw[<-hz];exact folS_12 ks fs t u ch
 have CH:=CHN.o w5 b05.o;rw[hz] at CH HA;rw[hzb] at CHB HA;have CHH:=zH CH;have HAA:=zH HA;clear CH HA CHN hz hzb bc qa qb;go_upto_region 2 with fail;go_wp2_with fail;refine CHH.o.mono ?_;rintro e w6⟨rfl,b6⟩;have b06:Hid (zb w w6):=zH (b05.o.trans (b6.mono s05));have s06:=b06.o.size;clear y0 y1 y2 y3 z0 z1 z2 z3 x0 x1 x2 x3;obtain⟨y0,y1,y2,y3⟩:=cells4v ((b6.block _ la).trans QA.o);obtain⟨z0,z1,z2,z3⟩:=cells4v ((b6.block _ lb).trans QB.o);obtain⟨x0,x1,x2,x3⟩:=cells4v ((b6.block _ lp).trans QP.o);have CB:=zH (CHB.o w6 b06.o);clear b6 CHB CHH;go_upto_region 3 with fail;go_cut [54] (fun s wx=>s=.bool (((!(decide (ix=0)) || !(decide (np=0))) || decide (z=0)) || (decide (rel=1) && !(decide (z=2))))/\wx=w6);case first =>
  by_cases h0:ix=0
  ·subst h0;by_cases h1:np=0
   ·subst h1;rcases hz012 with rfl | rfl | rfl
    ·(go_wp2_with fail;go_meet;exact⟨rfl,rfl⟩)
    ·rcases hrel with rfl | rfl | rfl <;> (go_wp2_with fail;go_meet;exact⟨rfl,rfl⟩)
    rcases hrel with rfl | rfl | rfl <;> (go_wp2_with fail;go_meet;exact⟨rfl,rfl⟩)
   have n1:decide ((np:Int)>0)=true:=Zt (by omega);have n2:decide ((0:Int)<(np:Int))=true:=Zt (by omega);have n3:decide (np>0)=true:=Zt (by omega);have n4:decide (0<np)=true:=Zt (by omega);have HE:Hid ((((!(decide ((0:Int)=0)) || !(decide (np=0))) || decide (z=0)) || (decide (rel=1) && !(decide (z=2))))=true):=zH (by simp[h1]);clear h1
   (go_wp2_with fail;go_meet;exact⟨by rw[HE.o],rfl⟩)
  have n1:(ix == 0)=false:=by simpa using h0
  have n2:(ix != 0)=true:=by simpa using h0
  have n3:decide (ix=0)=false:=by simpa using h0
  have HE:Hid ((((!(decide (ix=0)) || !(decide (np=0))) || decide (z=0)) || (decide (rel=1) && !(decide (z=2))))=true):=zH (by simp[h0]);clear h0
  (go_wp2_with fail;go_meet;exact⟨by rw[HE.o],rfl⟩)
 obtain⟨hec,hwx⟩:=hcut;subst hec;rw[hwx];clear hwx;obtain⟨E,hE⟩:∃E,(((!(decide (ix=0)) || !(decide (np=0))) || decide (z=0)) || (decide (rel=1) && !(decide (z=2))))=E:=⟨_,rfl⟩;rw[hE] at HAA ⊢;clear hE;cases E with
 |true =>
  have HR:Hid (ans=false):=zH (by rw[HAA.o];rfl);clear HAA;go_wp2_with fail;go_ret;exact⟨by rw[HR.o];rfl,b06.o⟩
 |false =>
  by_cases h3:rel=3
  ·subst h3;obtain⟨f,k0,k1,k2⟩:=intCaseV zbq 0;have HR:Hid (ans=!f):=zH (by rw[HAA.o,if_pos rfl,k1];rfl);clear HAA hrel k1;go_wp2_with fail;refine CB.o.mono ?_;rintro e w7⟨rfl,b7⟩;have B7:=zH (b06.o.trans (b7.mono s06));cases f <;> (go_wp2_with fail;go_ret;exact⟨by rw[HR.o];rfl,B7.o⟩)
  obtain⟨f,h2,h2a,h2b,h2c,h2d,h2e⟩:=gtCaseV bk.length;have HR:Hid (ans=f):=zH (by rw[HAA.o,if_neg h3,h2];rfl);have n1:(rel == 3)=false:=by simpa using h3
  have n2:decide (rel=3)=false:=by simpa using h3
  clear HAA hrel;cases f <;> (go_wp2_with fail;go_ret;exact⟨by rw[HR.o];rfl,b06.o⟩)
end Go.Proofs.YtadjpadieljjlaaGreat
