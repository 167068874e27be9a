/- Parts of the proof that no input makes the law false: OvPs, OvEr, OvVe. -/
import Derived.Test.YtadjpadieljjlaaGreatWvAX
set_option linter.unusedVariables false
set_option linter.unusedSimpArgs false
set_option maxRecDepth 100000
set_option maxHeartbeats 32000000
namespace Lfc
def vneed(kd ix:Int)(n:Nat):Int:=if kd=2∧ix<(n:Int) then ix+1 else(n:Int)
def wt(kd rel ix:Int)(i:Nat):Int:=if (i:Int)=ix then 1 else if kd=3∧rel≠3 then 2 else 3
def vgood(kd rel ix:Int)(n np n1 n2:Nat):Prop:=((n1=0∧n2=0∧0≤ix∧ix≤(n:Int))∧(¬(rel=1∧ix=(n:Int))∧¬(rel=3∧ix<(n:Int))∧¬(kd=3∧rel=2∧ix<(n:Int))))∧(np:Int)=vneed kd ix n
theorem vrfs_congr(ks:List Int)(fs:List Fact)(ts us:List Raw){W W':Nat→Int}:∀(ps:List Prf)(qs:List Ods)(k:Nat),(∀i,k≤i→i<k+ps.length→W i=W' i)→vrfs ks fs ts us qs W ps k=vrfs ks fs ts us qs W' ps k
 |[],qs,k,_=>by rw[vrfs,vrfs]
 |p :: r,[],k,_=>by rw[vrfs,vrfs]
 |p :: r,q :: t,k,h=>by
  rw[vrfs,vrfs,h k (Nat.le_refl _) (by simp),vrfs_congr ks fs ts us r t (k+1) (fun i h1 h2=>h i (by omega) (by simp only[List.length_cons];omega))]
theorem vrf_parts(ks:List Int)(fs:List Fact)(ts us:List Raw)(qs:List Ods)(kd rel ix:Int)(ps:List Prf)(ch bk:List Link)(hkd:kd=2∨kd=3)(hrel:rel=1∨rel=2∨rel=3) :
  (vgood kd rel ix qs.length ps.length ch.length bk.length→vrf ks fs ts us (if kd=2 then .lex qs else .sim qs) rel (.node ix ps ch bk)=vrfs ks fs ts us qs (wt kd rel ix) ps 0) ∧
  (¬vgood kd rel ix qs.length ps.length ch.length bk.length→vrf ks fs ts us (if kd=2 then .lex qs else .sim qs) rel (.node ix ps ch bk)=false):=by
 rcases hkd with rfl | rfl
 ·rw[if_pos rfl];have hw:vrfs ks fs ts us qs (wt 2 rel ix) ps 0=vrfs ks fs ts us qs (fun i=>if (i:Int)=ix then 1 else 3) ps 0:=vrfs_congr ks fs ts us ps qs 0 (fun i _ _=>by unfold wt;rw[if_neg (show ¬((2:Int)=3∧rel≠3) by omega)]);have hn:vneed 2 ix qs.length=min (ix+1) (qs.length:Int)∨¬(ix≤(qs.length:Int)):=by
   unfold vneed;by_cases h:ix<(qs.length:Int)
   ·rw[if_pos ⟨rfl,h⟩];left;omega
   rw[if_neg (by omega)];omega
  rw[hw,vrf];constructor
  ·intro h;obtain⟨⟨⟨h1,h2,h3,h4⟩,h5,h6,h7⟩,h8⟩:=h;rw[decide_eq_true h1,decide_eq_true h2,decide_eq_true h3,decide_eq_true h4,decide_eq_true (show rel=1→ix<(qs.length:Int) by omega),decide_eq_true (show rel=3→¬ix<(qs.length:Int) by omega),decide_eq_true (show(ps.length:Int)=min (ix+1) (qs.length:Int) by omega)];rfl
  intro h;rw[Bool.eq_false_iff];intro h0;simp only[Bool.and_eq_true,decide_eq_true_eq] at h0;obtain⟨⟨⟨⟨⟨h1,h2⟩,h3⟩,h4⟩,⟨h5,h6⟩,h7⟩,h8⟩:=h0;exact h ⟨⟨⟨h1,h2,h3,h4⟩,by omega,by omega,by omega⟩,by omega⟩
 rw[if_neg (by decide)];have hn:vneed 3 ix qs.length=(qs.length:Int):=by
  unfold vneed;rw[if_neg (by omega)]
 rw[vrf];constructor
 ·intro h;obtain⟨⟨⟨h1,h2,h3,h4⟩,h5,h6,h7⟩,h8⟩:=h;rw[hn] at h8;have hw:vrfs ks fs ts us qs (wt 3 rel ix) ps 0=vrfs ks fs ts us qs (fun i=>if rel=3 then 3 else if (i:Int)=ix then 1 else 2) ps 0:=vrfs_congr ks fs ts us ps qs 0 (fun i _ hi=>by
   unfold wt;by_cases h3:rel=3
   ·rw[if_pos h3,if_neg (show ¬((i:Int)=ix) by omega),if_neg (by omega)]
   rw[if_neg h3];by_cases hx:(i:Int)=ix
   ·rw[if_pos hx,if_pos hx]
   rw[if_neg hx,if_neg hx,if_pos ⟨rfl,h3⟩])
  rw[hw,decide_eq_true h1,decide_eq_true h2,decide_eq_true h3,decide_eq_true h4,decide_eq_true (show ix<(qs.length:Int)↔rel=1 by constructor <;> intro _ <;> omega),decide_eq_true h8];rfl
 intro h;rw[Bool.eq_false_iff];intro h0;simp only[Bool.and_eq_true,decide_eq_true_eq] at h0;obtain⟨⟨⟨⟨⟨h1,h2⟩,h3⟩,h4⟩,h5,h7⟩,h8⟩:=h0;exact h ⟨⟨⟨h1,h2,h3,h4⟩,fun hh=>by have:=h5.2 hh.1;omega,fun hh=>by have:=h5.1 hh.2;omega,fun hh=>by have:=h5.1 hh.2.2;omega⟩,by omega⟩
theorem odsOfs_at:∀(ps ps':List Ord)(k:Nat)(h:k<ps.length)(h':k<ps'.length)(h2:k<(odsOfs ps ps').length),(odsOfs ps ps')[k]=odsOf ps[k] ps'[k]
 |[],_,_,h,_,_=>by cases h
 |_ :: _,[],_,_,h,_=>by cases h
 |a :: r,b :: r',0,_,_,_=>by simp[odsOfs]
 |a :: r,b :: r',k+1,h,h',h2=>by
  simp only[odsOfs,List.getElem_cons_succ];exact odsOfs_at r r' k (by simpa using h) (by simpa using h') (by simpa[odsOfs] using h2)
theorem formsAt:∀(ps:List Ord),Ord.forms ps=true→∀p∈ps,p.form=true
 |a :: r,h,p,hp=>by
  rw[Ord.forms,Bool.and_eq_true] at h;rcases List.mem_cons.1 hp with rfl | hp
  ·exact h.1
  exact formsAt r h.2 p hp
theorem rngsAt{lo hi:Int}:∀(ps:List Ord),Ord.rngs lo hi ps=true→∀p∈ps,p.rng lo hi=true
 |a :: r,h,p,hp=>by
  rw[Ord.rngs,Bool.and_eq_true] at h;rcases List.mem_cons.1 hp with rfl | hp
  ·exact h.1
  exact rngsAt r h.2 p hp
theorem ordLen:∀(ps:List Ord),ps.length≤Ord.sizes ps
 |[]=>Nat.zero_le _
 |a :: r=>by
  rw[Ord.sizes,List.length_cons];have:=ordLen r;have:=a.size_pos;omega
theorem ordSizesAt:∀(ps:List Ord),∀p∈ps,p.size≤Ord.sizes ps
 |a :: r,p,hp=>by
  rw[Ord.sizes];rcases List.mem_cons.1 hp with rfl | hp
  ·omega
  have:=ordSizesAt r p hp;omega
end Lfc
namespace Go.Proofs.YtadjpadieljjlaaGreat
open Go.RowKit Go.Maps _root_.Lfc
attribute [local go_sem ↓] Go.wp_at_zero Go.wp_at_succ
structure RvS(w:World)(F A0 L R:Option Addr)(fs:List Fact)(ks:List Int)(ts us:List Raw):Prop where
 fs:FactsP (fun _=>True) w F fs
 ks:IntsO w A0 ks
 ts:TreesAt w L ts
 us:TreesAt w R us
theorem RvS.below{w w':World}{F A0 L R:Option Addr}{fs:List Fact}{ks:List Int}{ts us:List Raw}(h:RvS w F A0 L R fs ks ts us)(hb:Below w.heap.size w w'):RvS w' F A0 L R fs ks ts us:=⟨h.fs.below hb,h.ks.below hb,h.ts.below hb,h.us.below hb⟩
theorem PrfP.below{q:Nat→Prop}{w w':World}{p:Prf}{v0 v1 v2 v3:Value}(h:PrfP q w p v0 v1 v2 v3)(hb:Below w.heap.size w w'):PrfP q w' p v0 v1 v2 v3:=PrfP.keep (fun b _ hlt=>hb.block b hlt) hb.size (fun _ _ h=>h) p v0 v1 v2 v3 h
theorem rProves_upto(F A0 L R:Option Addr)(f0 c0 cl cr:Nat)(fs:List Fact)(ks:List Int)(ts us:List Raw)(hks:ks.length<=1000000)(hfn:fs.length<=1000000)(hfs:∀f∈fs,f.l.size<=1000000/\f.r.size<=1000000)(hts:∀t∈ts,t.size<=1000000)(hus:∀t∈us,t.size<=1000000)(hnt:ts.length<=1000000)(hnu:us.length<=1000000)(m:Nat)(hmm:m<=1000) :
  ∀(q:Nat->Prop)(o p:Lfc.Ord)(rel:Int)(x:Prf)(v0 v1 v2 v3 vo vp:Value)(w:World),o.size<=m->o.shp p=true->o.form=true->p.form=true->o.rng 0 ((ts.length:Int)-1)=true->p.rng 0 ((us.length:Int)-1)=true->(rel=1\/rel=2\/rel=3)->OrdV w o vo->OrdV w p vp->x.size<=1000000->x.ok 1000000 1000000->PrfP q w x v0 v1 v2 v3->RvS w F A0 L R fs ks ts us ->
   Calls Tryz.prog 41 #[.slice F fs.length f0,zI rel,vo,.slice L ts.length cl,vp,.slice R us.length cr,.slice A0 ks.length c0,.agg #[v0,v1,v2,v3]] w fun e w'=>e=.returned (.bool (vrf ks fs ts us (odsOf o p) rel x))/\zb w w':=by
 induction m with
 |zero=>intro q o p rel x v0 v1 v2 v3 vo vp w h;have:=o.size_pos;omega
 |succ m ih0 =>
  intro q o p rel x v0 v1 v2 v3 vo vp w hm hsh hfo hfo' hr hr' hrel hv hv' hxs hxo hP hS;have ih:=ih0 (by omega);clear ih0;obtain⟨kd,ar,os⟩:=o;obtain⟨kd',ar',os'⟩:=p;rw[Lfc.Ord.shp,Za,Zd] at hsh;obtain⟨rfl,hshs⟩:=hsh;have hlen:=((shps_spec os os').1 hshs).1;obtain⟨Ao,co,rfl,hc,hA⟩:=hv.open_;obtain⟨Ap,cp,rfl,hc',hA'⟩:=hv'.open_;obtain⟨ix,ps,ch,bk,A,A1,A2,c,c1,c2,rfl,rfl,rfl,rfl,rfl⟩:=hP.open_;obtain⟨⟨⟨_,hcp⟩,⟨_,hcc⟩,⟨_,hcb⟩⟩,hpp,hlc,hlb⟩:=hP.parts;have hok:=hxo;rw[Prf.ok] at hok;obtain⟨⟨hchn,hbkn⟩,⟨hchs,hbks⟩,hoks⟩:=hok;have hpl:ps.length<=1000000:=by have:=Prf.sizes_len ps;rw[Prf.size] at hxs;omega
  obtain⟨w1,hw1⟩:∃w1,w.alloc (.cells #[zI kd,zI ar,.slice Ao os.length co] 26)=w1:=⟨_,rfl⟩;obtain⟨w2,hw2⟩:∃w2,w1.alloc (.cells #[zI kd,zI ar',.slice Ap os'.length cp] 26)=w2:=⟨_,rfl⟩;obtain⟨w3,hw3⟩:∃w3,w2.alloc (.cells #[zI ix,.slice A ps.length c,.slice A1 ch.length c1,.slice A2 bk.length c2] 39)=w3:=⟨_,rfl⟩;have b1:=zG hw1;have b2:=zG hw2;have b3:=zG hw3;have q1:=zQ hw1;have q2:=zQ hw2;have q3:=zQ hw3;have l1:=zL q1;have l2:=zL q2;have l3:=zL q3;have z1:=b1.size;have z2:=b2.size;have z3:=b3.size;have B03:Hid (zb w w3):=zH ((b1.trans (b2.mono z1)).trans (b3.mono (by omega)));have s03:w.heap.size<=w3.heap.size:=B03.o.size;have SC:Hid (∀W,zb w3 W->(zc W w.heap.size 0 (zI kd)/\zc W w.heap.size 1 (zI ar)/\zc W w.heap.size 2 (.slice Ao os.length co))/\(zc W w1.heap.size 0 (zI kd)/\zc W w1.heap.size 1 (zI ar')/\zc W w1.heap.size 2 (.slice Ap os'.length cp))/\(zc W w2.heap.size 0 (zI ix)/\zc W w2.heap.size 1 (.slice A ps.length c)/\zc W w2.heap.size 2 (.slice A1 ch.length c1)/\zc W w2.heap.size 3 (.slice A2 bk.length c2))):=zH (fun W hW =>
   ⟨cells3o ((hW.block _ (by omega)).trans ((b3.block _ (by omega)).trans ((b2.block _ (by omega)).trans q1))),cells3o ((hW.block _ (by omega)).trans ((b3.block _ (by omega)).trans q2)),cells4v ((hW.block _ (by omega)).trans q3)⟩)
  have HSR:=zH (hS.below B03.o);have HSH:=zH hshs;have HAo:=zH (hA.below B03.o);have HAp:=zH (hA'.below B03.o);have HPP:=zH hpp;have HP:=zH hP;have HLC:=zH (hlc.below B03.o);have HLB:=zH (hlb.below B03.o);have HLEN:=zH hlen;have HCHS:=zH hchs;have HBKS:=zH hbks;have HOKS:=zH (Prf.oks_iff.1 hoks);have HFS:=zH hfs;have HTS:=zH hts;have HUS:=zH hus;have HXS:=zH (show Prf.sizes ps<=1000000 by rw[Prf.size] at hxs;omega);have HIH:=zH ih;have HMM:=zH (show Lfc.Ord.sizes os<=m by rw[Lfc.Ord.size] at hm;omega);have HREL:=zH hrel;obtain⟨r1,t1,t1',t1''⟩:=intCaseV rel 1;obtain⟨r2,t2,t2',t2''⟩:=intCaseV rel 2;obtain⟨r3,t3,t3',t3''⟩:=intCaseV rel 3;have HRR:Hid ((r1=true/\r2=false/\r3=false/\rel=1)\/(r1=false/\r2=true/\r3=false/\rel=2)\/(r1=false/\r2=false/\r3=true/\rel=3)):=zH (by
   rw[<-t1',<-t2',<-t3'];rcases hrel with rfl | rfl | rfl
   ·exact .inl (by decide)
   ·exact .inr (.inl (by decide))
   exact .inr (.inr (by decide)))
  rw[Lfc.Ord.form] at hfo hfo';rw[Lfc.Ord.rng] at hr hr';clear hv hv' hP hS hshs hA hA' hpp hlc hlb b1 b2 b3 q1 q2 q3 hm hchs hbks hoks hfs hts hus hxs hxo ih hrel z1 z2 z3;by_cases hk:kd=1
  ·as_aux_lemma =>
    subst hk;rw[if_pos rfl] at hfo hfo' hr hr';simp only[Za,Zd] at hfo hfo' hr hr';obtain⟨i,rfl⟩:∃i:Nat,ar=(i:Int):=⟨ar.toNat,by omega⟩;obtain⟨j,rfl⟩:∃j:Nat,ar'=(j:Int):=⟨ar'.toNat,by omega⟩;have hi:i<ts.length:=(by omega);have hj:j<us.length:=(by omega);have hi0:=zP i;have hj0:=zP j;have hi1:(i:Int)<(ts.length:Int):=(by omega);have hj1:(j:Int)<(us.length:Int):=(by omega);have HODS:Hid (odsOf (.node 1 (i:Int) os) (.node 1 (j:Int) os')=.arg i j):=zH (by rw[odsOf,if_neg (by decide),if_neg (by decide),Int.toNat_natCast,Int.toNat_natCast]);rw[HODS.o];have HV:=zH (vrf_arg ks fs ts us hi hj rel ix ps ch bk);obtain⟨i0,g0,g0',g0''⟩:=intCaseV ix 0;obtain⟨p0,p1,p2,p3,p4,p5,p6⟩:=gtCaseV ps.length;obtain⟨k0,k1,k2,k3,k4,k5,k6⟩:=gtCaseV bk.length;rw[g0',p1,k1,t1'] at HV;obtain⟨VR,hVR⟩:∃v,vrf ks fs ts us (.arg i j) rel (.node ix ps ch bk)=v:=⟨_,rfl⟩;rw[hVR] at HV ⊢;clear hVR hr hr' hfo hfo' hlen;obtain⟨f,hf⟩:∃f,folS ks fs ts[i] us[j] ch=f:=⟨_,rfl⟩;obtain⟨g,hg⟩:∃g,folS ks fs us[j] ts[i] bk=g:=⟨_,rfl⟩;rw[hf,hg] at HV;have HF:=zH hf;have HG:=zH hg;clear hf hg;obtain⟨⟨x0,x1,x2⟩,⟨y0,y1,y2⟩,⟨z0,z1,z2,z3⟩⟩:=SC.o _ (zB _ _);go_enter Tryz.func41,Tryz.ntmps41;go_upto_region 2 with fail;clear hw1 hw2 hw3;go_cut [48] (fun e wx=>e=.bool ((!i0 || !p0) || (!r3 && !k0))/\wx=w3);case first =>
     cases i0 with
     |false=>(as_aux_lemma=>(go_wp2_with fail;go_meet;exact⟨rfl,rfl⟩))
     |true =>
      cases p0 with
      |false=>(as_aux_lemma=>(go_wp2_with fail;go_meet;exact⟨rfl,rfl⟩))
      |true=>cases r3 <;> cases k0 <;> (as_aux_lemma=>(go_wp2_with fail;go_meet;exact⟨rfl,rfl⟩))
    obtain⟨hec,hwx⟩:=hcut;subst hec;rw[hwx];clear hwx g0 g0' g0'' p1 p2 p3 p4 p5 p6 k1 k2 k3 k4 k5 k6;by_cases hE:((!i0 || !p0) || (!r3 && !k0))=true
    ·have HN:Hid (VR=false):=zH (by
      rw[HV.o];rcases HRR.o with⟨rfl,rfl,rfl,rfl⟩ | ⟨rfl,rfl,rfl,rfl⟩ | ⟨rfl,rfl,rfl,rfl⟩
      ·rw[if_neg (by decide)];cases i0 <;> cases p0 <;> cases k0 <;> simp_all
      ·rw[if_neg (by decide)];cases i0 <;> cases p0 <;> cases k0 <;> simp_all
      cases i0 <;> cases p0 <;> simp_all)
     rw[hE];clear hE HV;go_wp2_with fail;go_ret;exact⟨by rw[HN.o];rfl,B03.o⟩
    have hE2:((!i0 || !p0) || (!r3 && !k0))=false:=(by simpa using hE);rw[hE2];have HK:Hid (i0=true/\p0=true/\(r3=false->k0=true)):=zH (by
     clear hE HV;cases i0 <;> cases p0 <;> cases r3 <;> cases k0 <;> simp_all)
    clear hE hE2;obtain⟨bl,ol,kl,nl,pl,tl,Al,cl',rfl,hbl,htl,d0,d1,d2,d3,_,_,htvl⟩:=HSR.o.ts.at_ hi;obtain⟨br,or',kr,nr,pr,tr,Ar',cr2,rfl,hbr,htr,e0,e1,e2,e3,_,_,htvr⟩:=HSR.o.us.at_ hj;have HTL:=zH htvl;have gg0:w.heap.size<w3.heap.size:=(by omega);have gg1:w1.heap.size<w3.heap.size:=(by omega);have HTR:=zH htvr;clear htvl htvr htl htr;go_upto_region 4 with fail;go_cut [17,18] (fun p v wx=>∃g h,p=.pointer (some ⟨g,0,none⟩)/\v=.pointer (some ⟨h,0,none⟩)/\Hid (TwoB w3 g h (zT kl nl pl Al tl cl') (zT kr nr pr Ar' tr cr2) wx));case first =>
     go_big_region
     all_goals (try go_wp2_with fail)
     all_goals (try go_meet)
     ·exact⟨_,_,rfl,rfl,zH (twoA _ _ _)⟩
     exact⟨_,_,rfl,rfl,zH (twoB _ _ _)⟩
    obtain⟨gb,hb',rfl,rfl,HTB⟩:=hcut;obtain⟨b5,sg,sh,ngh,qg,qh⟩:=HTB.o;clear HTB d0 d1 d2 d3 e0 e1 e2 e3;clear x0 x1 x2 y0 y1 y2 z0 z1 z2 z3;obtain⟨⟨x0,x1,x2⟩,⟨y0,y1,y2⟩,⟨z0,z1,z2,z3⟩⟩:=SC.o _ b5;have lg:=zL qg;have lh:=zL qh;have QG:=zH qg;have QH:=zH qh;obtain⟨g0,g1,g2,g3⟩:=cells4v qg;obtain⟨h0,h1,h2,h3⟩:=cells4v qh;have hSx:=HSR.o.below b5;have CC:=zH (rChain_any _ F A0 f0 c0 fs ks ts[i] us[j] _ _ ch A1 c1 wc hfn hks hchn HFS.o HCHS.o hSx.fs hSx.ks (HTS.o _ (Ze hi)) (HUS.o _ (Ze hj)) (HTL.o.below b5) (HTR.o.below b5) (HLC.o.below b5));rw[HF.o] at CC;have CB:=zH (fun W (hW:zb wc W)=>rChain_any _ F A0 f0 c0 fs ks us[j] ts[i] _ _ bk A2 c2 W hfn hks hbkn HFS.o HBKS.o (hSx.below hW).fs (hSx.below hW).ks (HUS.o _ (Ze hj)) (HTS.o _ (Ze hi)) ((HTR.o.below b5).below hW) ((HTL.o.below b5).below hW) ((HLB.o.below b5).below hW));rw[HG.o] at CB;have B5:=zH b5;clear qg qh hSx b5;go_wp2_with fail;refine CC.o.mono ?_;rintro e w6⟨⟨s,rfl,hs⟩,b6⟩;have HS6:=zH hs;have b56:zb w3 w6:=B5.o.trans (b6.mono B5.o.size);have B6:=zH b6;have HY:=zH (B03.o.trans (b56.mono s03));clear hs b6 x0 x1 x2 y0 y1 y2 z0 z1 z2 z3 g0 g1 g2 g3 h0 h1 h2 h3 CC;obtain⟨⟨x0,x1,x2⟩,⟨y0,y1,y2⟩,⟨z0,z1,z2,z3⟩⟩:=SC.o _ b56;obtain⟨g0,g1,g2,g3⟩:=cells4v ((B6.o.block _ lg).trans QG.o);obtain⟨h0,h1,h2,h3⟩:=cells4v ((B6.o.block _ lh).trans QH.o);obtain⟨fb,hfb⟩:∃b,decide (f≠0)=b:=⟨_,rfl⟩;rw[hfb];have HFB:=zH hfb;clear hfb;cases r3 with
    |true =>
     have CB6:=zH (CB.o _ B6.o);go_wp2_with fail;refine CB6.o.mono ?_;rintro e w7⟨⟨s',rfl,_⟩,b7⟩;have HY7:=zH (HY.o.trans (b7.mono HY.o.size));obtain⟨gb',hgb⟩:∃b,decide (g≠0)=b:=⟨_,rfl⟩;rw[hgb];have HGB:=zH hgb;clear hgb b7;have HR:Hid (VR=(fb && gb')):=zH (by
      rw[HV.o];obtain⟨k1,k2,_⟩:=HK.o;rcases HRR.o with⟨_,_,h,_⟩ | ⟨_,_,h,_⟩ | ⟨h1,_,_,h3⟩
      ·cases h
      ·cases h
      rw[h1,h3,k1,k2,if_pos rfl,<-HFB.o,<-HGB.o];by_cases a:f=0 <;> by_cases b:g=0 <;> simp[a,b])
     clear HV CB CB6;cases fb <;> cases gb' <;> (go_wp2_with fail;go_ret;exact⟨by rw[HR.o];rfl,HY7.o⟩)
    |false =>
     have HR:Hid (VR=(fb && (s || r2))):=zH (by
      rw[HV.o];obtain⟨k1,k2,k3⟩:=HK.o;have hsf:=HS6.o;rcases HRR.o with⟨h1,h2,_,h3⟩ | ⟨h1,h2,_,h3⟩ | ⟨_,_,h,_⟩
      ·rw[h1,h2,h3,k1,k2,k3 rfl,if_neg (by decide),<-HFB.o];by_cases a:f=0
       ·simp[a]
       rw[hsf a];simp[a]
      ·rw[h1,h2,h3,k1,k2,k3 rfl,if_neg (by decide),<-HFB.o];by_cases a:f=0 <;> simp[a]
      cases h)
     clear HV CB;cases fb <;> cases s <;> cases r2 <;> (go_wp2_with fail;go_ret;exact⟨by rw[HR.o];rfl,HY.o⟩)
  as_aux_lemma =>
   have hkd:kd=2\/kd=3:=by
    by_cases h2:kd=2
    ·exact .inl h2
    by_cases h3:kd=3
    ·exact .inr h3
    rw[if_neg hk,if_neg (by omega)] at hfo;cases hfo
   have HKD:=zH hkd;rw[if_neg hk,if_pos hkd] at hfo hfo';rw[if_neg hk] at hr hr';simp only[Za,Zd] at hfo hfo';have HFO:=zH hfo.2;have HFO':=zH hfo'.2;have HR1:=zH hr;have HR2:=zH hr';obtain⟨qs,hqs⟩:∃qs,odsOfs os os'=qs:=⟨_,rfl⟩;have HODS:Hid (odsOf (.node kd ar os) (.node kd ar' os')=if kd=2 then .lex qs else .sim qs):=zH (by
    rw[odsOf,hqs];rcases hkd with rfl | rfl
    ·rfl
    rfl)
   rw[HODS.o];have hql:qs.length=os.length:=(by rw[<-hqs];exact odsOfs_len _ _ hlen);have HV:=zH (vrf_parts ks fs ts us qs kd rel ix ps ch bk hkd HREL.o);have HQS:=zH hqs;obtain⟨n,hn⟩:∃n,os.length=n:=⟨_,rfl⟩;have hn':os'.length=n:=(by rw[<-hlen];exact hn);rw[hql] at HV;rw[hn] at SC HV hql hlen hc;rw[hn'] at SC;rw[hn] at hw1 ⊢;rw[hn'] at hw2 ⊢;have HQL:=zH hql;have HN:=zH hn;have HN':=zH hn';have hnb:n<=1000:=by
    have h1:=HMM.o;have h2:=ordLen os;omega
   obtain⟨VR,hVR⟩:∃v,vrf ks fs ts us (if kd=2 then .lex qs else .sim qs) rel (.node ix ps ch bk)=v:=⟨_,rfl⟩;rw[hVR] at HV ⊢;clear hVR hqs hql hlen hfo hfo' hr hr' hn hn';obtain⟨T,hT⟩:∃T,vrfs ks fs ts us qs (Lfc.wt kd rel ix) ps 0=T:=⟨_,rfl⟩;rw[hT] at HV;have HT:=zH hT;clear hT;obtain⟨n0,m1,m2,m3,m4,m5,m6⟩:=gtCaseV ch.length;obtain⟨k0,o1,o2,o3,o4,o5,o6⟩:=gtCaseV bk.length;obtain⟨ng,e1⟩:∃b,decide (ix<0)=b:=⟨_,rfl⟩;obtain⟨gt,e2⟩:∃b,decide ((n:Int)<ix)=b:=⟨_,rfl⟩;have e2':decide (ix>(n:Int))=gt:=e2;obtain⟨eq,e3,e3',e3''⟩:=intCaseV ix (n:Int);obtain⟨lt,e4⟩:∃b,decide (ix<(n:Int))=b:=⟨_,rfl⟩;have hk1:(kd == 1)=false:=(by simpa using hk);obtain⟨kb2,c21,c22,c23⟩:=intCaseV kd 2;obtain⟨kb3,c31,c32,c33⟩:=intCaseV kd 3;have HE:Hid ((((!n0 || !k0) || ng) || gt)=false↔(ch.length=0/\bk.length=0/\0<=ix/\ix<=(n:Int))):=zH (by
    rw[<-m1,<-o1,<-e1,<-e2];simp only[Bool.or_eq_false_iff,Bool.not_eq_false',Zd,Zf];constructor
    ·rintro⟨⟨⟨h1,h2⟩,h3⟩,h4⟩;exact⟨h1,h2,by omega,by omega⟩
    rintro⟨h1,h2,h3,h4⟩;exact⟨⟨⟨h1,h2⟩,by omega⟩,by omega⟩)
   have HE2:Hid ((((r1 && eq) || (r3 && lt)) || ((kb3 && r2) && lt))=false↔(¬(rel=1/\ix=(n:Int))/\¬(rel=3/\ix<(n:Int))/\¬(kd=3/\rel=2/\ix<(n:Int)))):=zH (by
    rw[<-t1',<-t2',<-t3',<-e3',<-e4,<-c32];simp only[Bool.or_eq_false_iff,Bool.and_eq_false_iff,Zf];constructor
    ·rintro⟨⟨h1,h2⟩,h3⟩;exact⟨by omega,by omega,by omega⟩
    rintro⟨h1,h2,h3⟩;exact⟨⟨by omega,by omega⟩,by omega⟩)
   have HND:Hid (vneed kd ix n=if (kb2 && lt)=true then ix+1 else(n:Int)):=zH (by
    unfold vneed;rw[<-c22,<-e4];by_cases h1:kd=2 <;> by_cases h2:ix<(n:Int) <;> simp[h1,h2])
   have HWT:Hid (∀k:Nat,Lfc.wt kd rel ix k=if (k:Int)=ix then 1 else if (kb3 && !r3)=true then 2 else 3):=zH (fun k=>by
    unfold Lfc.wt;rw[<-c32,<-t3'];by_cases h1:kd=3 <;> by_cases h2:rel=3 <;> simp[h1,h2])
   obtain⟨⟨x0,x1,x2⟩,⟨y0,y1,y2⟩,⟨z0,z1,z2,z3⟩⟩:=SC.o _ (zB _ _);go_enter Tryz.func41,Tryz.ntmps41;go_upto_region 11 with fail;clear hw1 hw2 hw3;go_cut [116] (fun e wx=>e=.bool (((!n0 || !k0) || ng) || gt)/\wx=w3);case first =>
    cases n0 with
    |false=>(as_aux_lemma=>(go_wp2_with fail;go_meet;exact⟨rfl,rfl⟩))
    |true =>
     cases k0 with
     |false=>(as_aux_lemma=>(go_wp2_with fail;go_meet;exact⟨rfl,rfl⟩))
     |true =>
      cases ng with
      |true=>(as_aux_lemma=>(go_wp2_with fail;go_meet;exact⟨rfl,rfl⟩))
      |false=>cases gt <;> (as_aux_lemma=>(go_wp2_with fail;go_meet;exact⟨rfl,rfl⟩))
   obtain⟨hec,hwx⟩:=hcut;subst hec;rw[hwx];clear hwx m1 m2 m3 m4 m5 m6 o1 o2 o3 o4 o5 o6 e1 e2 e2';obtain⟨E,hE⟩:∃E,(((!n0 || !k0) || ng) || gt)=E:=⟨_,rfl⟩;rw[hE] at HE ⊢;clear hE;cases E with
   |true =>
    have HZ:Hid (VR=false):=zH (HV.o.2 (fun h=>by have:=HE.o.2 h.1.1;cases this));clear HV;go_wp2_with fail;go_ret;exact⟨by rw[HZ.o];rfl,B03.o⟩
   |false =>
    as_aux_lemma =>
    have HG1:=zH (HE.o.1 rfl);clear HE;go_upto_region 13 with fail;go_cut [149] (fun e wx=>e=.bool (((r1 && eq) || (r3 && lt)) || ((kb3 && r2) && lt))/\wx=w3);case first =>
     rcases HRR.o with⟨rfl,rfl,rfl,-⟩ | ⟨rfl,rfl,rfl,-⟩ | ⟨rfl,rfl,rfl,-⟩
     ·cases eq with
      |true=>(as_aux_lemma=>(go_wp2_with fail;go_meet;exact⟨rfl,rfl⟩))
      |false=>cases kb3 <;> (as_aux_lemma=>(go_wp2_with fail;go_meet;exact⟨rfl,rfl⟩))
     ·cases kb3 with
      |false=>(as_aux_lemma=>(go_wp2_with fail;go_meet;exact⟨rfl,rfl⟩))
      |true=>cases lt <;> (as_aux_lemma=>(go_wp2_with fail;go_meet;exact⟨rfl,rfl⟩))
     cases lt with
     |true=>(as_aux_lemma=>(go_wp2_with fail;go_meet;exact⟨rfl,rfl⟩))
     |false=>cases kb3 <;> (as_aux_lemma=>(go_wp2_with fail;go_meet;exact⟨rfl,rfl⟩))
    obtain⟨hec,hwx⟩:=hcut;subst hec;rw[hwx];clear hwx;obtain⟨E,hE⟩:∃E,(((r1 && eq) || (r3 && lt)) || ((kb3 && r2) && lt))=E:=⟨_,rfl⟩;rw[hE] at HE2 ⊢;clear hE e3 e3' e3'';cases E with
    |true =>
     have HZ:Hid (VR=false):=zH (HV.o.2 (fun h=>by have:=HE2.o.2 h.1.2;cases this));clear HV;go_wp2_with fail;go_ret;exact⟨by rw[HZ.o];rfl,B03.o⟩
    |false =>
     have HG2:=zH (HE2.o.1 rfl);clear HE2;go_upto_region 16 with fail;go_cut [159] (fun e wx=>e=.bool (kb2 && lt)/\wx=w3);case first=>cases kb2 <;> cases lt <;> (as_aux_lemma=>(go_wp2_with fail;go_meet;exact⟨rfl,rfl⟩))
     obtain⟨hec,hwx⟩:=hcut;subst hec;rw[hwx];clear hwx;obtain⟨N,hN⟩:∃N:Nat,vneed kd ix n=(N:Int):=⟨(vneed kd ix n).toNat,by
      have h1:=HG1.o;unfold vneed;split <;> omega⟩
     have hNn:N<=n:=by
      have h1:=HG1.o;unfold vneed at hN;split at hN <;> omega
     rw[hN] at HND;have HNN:=zH hN;have hxw:IntKind.i64.wrap (ix+1)=ix+1:=Zi _ (by have:=HG1.o;omega);clear hN;go_upto_if 159 with fail;go_cut [24] (fun e wx=>e=zI (N:Int)/\wx=w3);case first =>
      obtain⟨kl,hkl⟩:∃b,(kb2 && lt)=b:=⟨_,rfl⟩;rw[hkl] at HND ⊢;clear hkl;cases kl with
      |true =>
       have HX:Hid (ix+1=(N:Int)):=zH (by have:=HND.o;rw[if_pos rfl] at this;exact this.symm);go_wp2_with fail;go_meet;exact⟨by rw[HX.o],rfl⟩
      |false =>
       have HX:Hid ((n:Int)=(N:Int)):=zH (by have:=HND.o;rw[if_neg (by decide)] at this;exact this.symm);go_wp2_with fail;go_meet;exact⟨by rw[HX.o],rfl⟩
     obtain⟨hec,hwx⟩:=hcut;subst hec;rw[hwx];clear hwx hxw e4 c21 c22 c23;by_cases hpN:ps.length=N
     ·as_aux_lemma =>
       have HVT:Hid (VR=T):=zH (HV.o.1 ⟨⟨HG1.o,HG2.o⟩,by rw[HNN.o,hpN]⟩);have hne1:((ps.length:Int) != (N:Int))=false:=(by simp;omega);have hne2:((ps.length:Int) == (N:Int))=true:=(by simp;omega);have hne3:decide ((ps.length:Int)=(N:Int))=true:=(by simp;omega);have HPN:=zH hpN;rw[hpN] at SC;clear HV hpN x0 x1 x2 y0 y1 y2 z0 z1 z2 z3;obtain⟨⟨x0,x1,x2⟩,⟨y0,y1,y2⟩,⟨z0,z1,z2,z3⟩⟩:=SC.o _ (zB _ _);go_wp2_with fail;clear hne1 hne2 hne3;go_loopw [25] (fun i wr=>∃k:Nat,k<=N/\i=zI (k:Int)/\Hid (zb w3 wr/\T=vrfs ks fs ts us (qs.drop k) (Lfc.wt kd rel ix) (ps.drop k) k)) (fun i _=>N-(intOf i).toNat);case atStart=>exact⟨0,by omega,rfl,zH ⟨zB _ _,by rw[List.drop_zero,List.drop_zero];exact HT.o.symm⟩⟩
       obtain⟨k,hk,rfl,HI⟩:=hrel;have hbw:=HI.o.1;clear x0 x1 x2 y0 y1 y2 z0 z1 z2 z3;obtain⟨⟨x0,x1,x2⟩,⟨y0,y1,y2⟩,⟨z0,z1,z2,z3⟩⟩:=SC.o _ hbw;have HBW:=zH hbw;by_cases hlt:k<N
       ·have hko:k<os.length:=(by rw[HN.o];omega);have hko':k<os'.length:=(by rw[HN'.o];omega);have hkp:k<ps.length:=(by rw[HPN.o];exact hlt);have hkq:k<qs.length:=(by rw[HQL.o];omega);have hi0:=zP k;have hi1:(k:Int)<(N:Int):=(by omega);have hi2:(k:Int)<(n:Int):=(by omega);have HD:=zH (HI.o.2.trans (vrfs_drop ks fs ts us (Lfc.wt kd rel ix) qs ps k hkq hkp));have hqk:qs[k]=odsOf os[k] os'[k]:=by
         have h:=HQS.o;subst h;exact odsOfs_at os os' k hko hko' hkq
        rw[hqk] at HD;obtain⟨W,hW⟩:∃W,Lfc.wt kd rel ix k=W:=⟨_,rfl⟩;rw[hW] at HD;have HW:Hid (W=if (k:Int)=ix then 1 else if (kb3 && !r3)=true then 2 else 3):=zH (by rw[<-hW];exact HWT.o k);have hW3:W=1\/W=2\/W=3:=by
         rw[HW.o];split
         ·exact .inl rfl
         split
         ·exact .inr (.inl rfl)
         exact .inr (.inr rfl)
        obtain⟨g,hg⟩:∃g,vrf ks fs ts us (odsOf os[k] os'[k]) W ps[k]=g:=⟨_,rfl⟩;rw[hg] at HD;obtain⟨bo,oo,ka,aa,ua,Ba,ca,rfl,hbo,hta,u0,u1,u2,_,_,hova⟩:=HAo.o.at_ hko;obtain⟨bp,op,kp,ap,up,Bp,cpp,rfl,hbp,htp,u3,u4,u5,_,_,hovp⟩:=HAp.o.at_ hko';obtain⟨bb,ob,rfl,hbb,_,hpr⟩:=HPP.o (by intro h;rw[h] at hkp;cases hkp);obtain⟨v0,v1,v2,v3,u6,u7,u8,u9,hpk⟩:=PrfsP.at_ ps ob k hkp hpr;have FC:Hid (∀W,zb w3 W->((zc W bo (oo+k*3) (zI ka)/\zc W bo (oo+k*3+1) (zI aa)/\zc W bo (oo+k*3+2) (.slice Ba ua.length ca))/\(zc W bp (op+k*3) (zI kp)/\zc W bp (op+k*3+1) (zI ap)/\zc W bp (op+k*3+2) (.slice Bp up.length cpp))/\(zc W bb (ob+k*4) v0/\zc W bb (ob+k*4+1) v1/\zc W bb (ob+k*4+2) v2/\zc W bb (ob+k*4+3) v3))):=zH (fun W hW=>by
         have hbW:=B03.o.trans (hW.mono s03);exact⟨⟨(hW.cell (p:=⟨bo,oo+k*3,none⟩) hbo).trans u0,(hW.cell (p:=⟨bo,oo+k*3+1,none⟩) hbo).trans u1,(hW.cell (p:=⟨bo,oo+k*3+2,none⟩) hbo).trans u2⟩,⟨(hW.cell (p:=⟨bp,op+k*3,none⟩) hbp).trans u3,(hW.cell (p:=⟨bp,op+k*3+1,none⟩) hbp).trans u4,(hW.cell (p:=⟨bp,op+k*3+2,none⟩) hbp).trans u5⟩,(hbW.cell (p:=⟨bb,ob+k*4,none⟩) hbb).trans u6,(hbW.cell (p:=⟨bb,ob+k*4+1,none⟩) hbb).trans u7,(hbW.cell (p:=⟨bb,ob+k*4+2,none⟩) hbb).trans u8,(hbW.cell (p:=⟨bb,ob+k*4+3,none⟩) hbb).trans u9⟩)
        have CI:Hid (∀W',zb w3 W'->Calls Tryz.prog 41 #[.slice F fs.length f0,zI W,.agg #[zI ka,zI aa,.slice Ba ua.length ca],.slice L ts.length cl,.agg #[zI kp,zI ap,.slice Bp up.length cpp],.slice R us.length cr,.slice A0 ks.length c0,.agg #[v0,v1,v2,v3]] W' fun e w'=>e=.returned (.bool g)/\zb W' w'):=zH (fun W' hW'=>by
         rw[<-hg];refine HIH.o q os[k] os'[k] W ps[k] v0 v1 v2 v3 _ _ W' ?_ ?_ ?_ ?_ ?_ ?_ hW3 (hova.below hW') (hovp.below hW') ?_ (HOKS.o _ (Ze hkp)) (PrfP.below (PrfP.below hpk B03.o) hW') (HSR.o.below hW')
         ·have:=ordSizesAt os os[k] (Ze hko);have:=HMM.o;omega
         ·exact shps_at os os' HSH.o k hko hko'
         ·exact formsAt os HFO.o _ (Ze hko)
         ·exact formsAt os' HFO'.o _ (Ze hko')
         ·exact rngsAt os HR1.o _ (Ze hko)
         ·exact rngsAt os' HR2.o _ (Ze hko')
         have:=Prf.sizes_mem ps ps[k] (Ze hkp);have:=HXS.o;omega)
        have hone:∀v∈[v0,v1,v2,v3],v.oneCell'=true:=by
         obtain⟨ix',ps',ch',bk',A',A1',A2',c',c1',c2',_,rfl,rfl,rfl,rfl⟩:=hpk.open_;intro v hv;simp at hv;rcases hv with rfl | rfl | rfl | rfl <;> rfl
        clear hqk hW hW3 hg hbo hta u0 u1 u2 hova hbp htp u3 u4 u5 hovp hbb hpr u6 u7 u8 u9 hpk hbw HI;go_upto_block 2 with fail;go_cut [26] from 168 to 207 (fun e wx=>e=zI W/\wx=wr);case first =>
         by_cases hkx:(k:Int)=ix
         ·have hkx1:((k:Int) == ix)=true:=(by simpa using hkx);have HX:Hid (W=1):=zH (by rw[HW.o,if_pos hkx]);clear hkx HW;go_wp2_with fail;go_meet;exact⟨by rw[HX.o],rfl⟩
         have hkx1:((k:Int) == ix)=false:=(by simpa using hkx);have HX:Hid (W=if (kb3 && !r3)=true then 2 else 3):=zH (by rw[HW.o,if_neg hkx]);clear hkx HW;cases kb3 <;> cases r3 <;> (go_wp2_with fail;go_meet;exact⟨by rw[HX.o];rfl,rfl⟩)
        obtain⟨hec,hwx⟩:=hcut;subst hec;rw[hwx];clear hwx;go_upto_region 28 with fail;obtain⟨⟨u0,u1,u2⟩,⟨u3,u4,u5⟩,⟨u6,u7,u8,u9⟩⟩:=FC.o _ HBW.o;refine Zs 20 ?_;simp only[Zc,List.take_zero,List.drop_succ_cons,List.drop_zero];change wpStill Tryz.prog _ wr.drew _ _ _;repeat still_step
        try refine wpStill_nil ?_
        change wpList _ _ _ _ _ wr.drew;obtain⟨w5,hw5⟩:∃v,wr.drew=v:=⟨_,rfl⟩;rw[hw5];have b5:zb w3 w5:=(by rw[<-hw5];exact HBW.o.drew);clear hw5 u0 u1 u2 u3 u4 u5 u6 u7 u8 u9 x0 x1 x2 y0 y1 y2 z0 z1 z2 z3;have CI5:=zH (CI.o _ b5);go_wp2_with fail;refine CI5.o.mono ?_;rintro e w6⟨rfl,b6'⟩;have b6:zb w3 w6:=b5.trans (b6'.mono b5.size);have B6:=zH b6;clear b6' b5 b6 CI5;obtain⟨⟨x0,x1,x2⟩,⟨y0,y1,y2⟩,⟨z0,z1,z2,z3⟩⟩:=SC.o _ B6.o;cases g with
        |true =>
         have HN2:Hid (zb w3 w6/\T=vrfs ks fs ts us (qs.drop (k+1)) (Lfc.wt kd rel ix) (ps.drop (k+1)) (k+1)):=zH ⟨B6.o,by rw[HD.o,Bool.true_and]⟩;clear HD;go_wp2_with fail;go_roundw;case rel=>exact⟨k+1,by omega,by go_num,HN2⟩
         case measure=>simp[intOf];omega
        |false =>
         have HZ:Hid (VR=false):=zH (by rw[HVT.o,HD.o,Bool.false_and]);have HY:=zH (B03.o.trans (B6.o.mono s03));clear HD HVT;go_wp2_with fail;go_ret;exact⟨by rw[HZ.o];rfl,HY.o⟩
       have hi0:¬((k:Int)<(N:Int)):=(by omega);have HZ:Hid (VR=true):=zH (by rw[HVT.o,HI.o.2];exact vrfs_end ks fs ts us _ qs ps k (by rw[HPN.o];omega));have HY:=zH (B03.o.trans (hbw.mono s03));clear HI hbw;go_wp2_with fail;go_ret;exact⟨by rw[HZ.o];rfl,HY.o⟩
     have HZ:Hid (VR=false):=zH (HV.o.2 (fun h=>by have:=h.2;rw[HNN.o] at this;omega));have hne1:((ps.length:Int) != (N:Int))=true:=(by simp;omega);have hne2:((ps.length:Int) == (N:Int))=false:=(by simp;omega);have hne3:decide ((ps.length:Int)=(N:Int))=false:=(by simp;omega);clear HV hpN;go_wp2_with fail;go_ret;exact⟨by rw[HZ.o];rfl,B03.o⟩
end Go.Proofs.YtadjpadieljjlaaGreat
namespace Lfc
theorem flat_take:∀(fs:List Fact)(k:Nat)(h:k<fs.length),flat (fs.take (k+1))=flat (fs.take k)++[fs[k].l,fs[k].r]
 |f :: r,0,_=>rfl
 |f :: r,k+1,h=>by
  have:=flat_take r k (by simpa using h);simp only[List.take_succ_cons,flat,List.getElem_cons_succ,List.cons_append];rw[this]
theorem flat_of:∀(fs:List Fact)(P:Raw→Prop),(∀f∈fs,P f.l∧P f.r)→∀t∈flat fs,P t
 |[],P,_,t,ht=>by cases ht
 |f :: r,P,h,t,ht=>by
  rw[flat] at ht;rcases List.mem_cons.1 ht with rfl | ht
  ·exact(h f (by simp)).1
  rcases List.mem_cons.1 ht with rfl | ht
  ·exact(h f (by simp)).2
  exact flat_of r P (fun g hg=>h g (by simp[hg])) t ht
theorem rng_pos{hi:Int}:∀o:Ord,o.form=true→o.rng 0 hi=true→0≤hi
 |.node k a [],h1,h2=>by
  rw[Ord.form] at h1;rw[Ord.rng] at h2;by_cases hk:k=1
  ·rw[if_pos hk] at h2;simp only[Bool.and_eq_true,decide_eq_true_eq] at h2;omega
  rw[if_neg hk] at h1;split at h1
  ·simp at h1
  cases h1
 |.node k a (p :: r),h1,h2=>by
  rw[Ord.form] at h1;rw[Ord.rng] at h2;by_cases hk:k=1
  ·rw[if_pos hk] at h2;simp only[Bool.and_eq_true,decide_eq_true_eq] at h2;omega
  rw[if_neg hk] at h1 h2;split at h1
  ·rw[Ord.forms] at h1;rw[Ord.rngs] at h2;simp only[Bool.and_eq_true] at h1 h2;exact rng_pos p h1.2.1 h2.1
  cases h1
end Lfc
namespace Go.Proofs.YtadjpadieljjlaaGreat
open Go.RowKit Go.Maps _root_.Lfc
attribute [local go_sem ↓] Go.wp_at_zero Go.wp_at_succ
def AllI(w2:World)(ts:List Raw)(v:Value)(W:World):Prop:=∃xs,W.ownsRow w2.heap.size 51 4 v ts.length xs∧RowP (fun b=>b<w2.heap.size) W ts xs∧Below w2.heap.size w2 W
theorem AllI.push{w2 W w9:World}{ts us:List Raw}{v v9:Value}{xs news:List Value}{m:Nat}(hrow:RowP (fun b=>b<w2.heap.size) W ts xs)(hb:Below w2.heap.size w2 W)(hown:W.ownsRow w2.heap.size 51 4 v ts.length xs)(hn:RowP (fun b=>b<w2.heap.size) w2 us news)(hm:us.length=m)
  (hown9:w9.ownsRow w2.heap.size 51 4 v9 (ts.length+m) (xs++news)) (hg:W.grownBy w9 v.ownBlock):AllI w2 (ts++us) v9 w9:=by
 have hb9:Below w2.heap.size w2 w9:=Below.grown hb hg hb.size (fun b e=>(hown.lt b e).1);refine⟨xs++news,by rw[Zq,hm];exact hown9,?_,hb9⟩;have h1:RowP (fun b=>b<w2.heap.size) w9 us news:=hn.keep (fun b hb' _=>hb9.block b hb') hb9.size (fun _ _ h=>h);have h2:RowP (fun b=>b<w2.heap.size) w9 ts xs:=hrow.keep (fun b hb' _=>(hb9.block b hb').trans (hb.block b hb').symm) (by have:=hg.size;omega) (fun _ _ h=>h);exact h1.append h2
theorem cells_news{W:World}{g:Nat}{xs:List Value}{t:TypeId}(h:W.heap[g]?=some (.cells xs.toArray t (0,0)))(j:Nat)(u:Value)(hj:xs[j]?=some u):W.cell? ((⟨g,0,none⟩:Addr).add j)=some u:=by
 rw[taddr_add];refine(zC h j).trans ?_;simpa using hj
theorem rError_any(fs:List Fact)(F:Option Addr)(o p:Lfc.Ord)(vo vp:Value)(ts us:List Raw)(L R:Option Addr)(f0 cl cr:Nat)(ks:List Int)(A0:Option Addr)(rel:Int)(w:World)(hQ:QuO w fs F o p vo vp ts us L R cl cr ks A0)(hrel:rel=1\/rel=2\/rel=3)(hc:chkF fs o p ts us=0) :
  Calls Tryz.prog 40 #[.slice F fs.length f0,zI rel,vo,.slice L ts.length cl,vp,.slice R us.length cr] w fun e w'=>e=.returned (zI 0)/\zb w w':=by
 obtain⟨i0,hi,hz0,hz1,hz2⟩:=info_parts termInfo;obtain⟨_,hall,hv1,hv2,hsh⟩:=chkF_zero hc;have hpos1:0<ts.length:=by have h:=vld_zero hv1;have:=rng_pos o h.2.1 h.2.2;omega
 have hpos2:0<us.length:=by have h:=vld_zero hv2;have:=rng_pos p h.2.1 h.2.2;omega
 have HVO:=zH hQ.vo;have HVP:=zH hQ.vp;have HQ:=zH hQ;have HV1:=zH hv1;have HV2:=zH hv2;have HSH:=zH hsh;obtain⟨kd,ar,os,Ao,co,hO,rfl⟩:∃kd ar os A c,o=.node kd ar os/\vo=.agg #[zI kd,zI ar,.slice A (List.length os) c]:=by
  have h:=hQ.vo;obtain⟨k,a,ps⟩:=o;obtain⟨A,c,rfl,_,_⟩:=h.open_;exact⟨k,a,ps,A,c,rfl,rfl⟩
 obtain⟨kd',ar',os',Ap,cp,hP,rfl⟩:∃kd ar os A c,p=.node kd ar os/\vp=.agg #[zI kd,zI ar,.slice A (List.length os) c]:=by
  have h:=hQ.vp;obtain⟨k,a,ps⟩:=p;obtain⟨A,c,rfl,_,_⟩:=h.open_;exact⟨k,a,ps,A,c,rfl,rfl⟩
 obtain⟨w1,hw1⟩:∃w1,w.alloc (.cells #[zI kd,zI ar,.slice Ao os.length co] 26)=w1:=⟨_,rfl⟩;obtain⟨w2,hw2⟩:∃w2,w1.alloc (.cells #[zI kd',zI ar',.slice Ap os'.length cp] 26)=w2:=⟨_,rfl⟩;have b1:=zG hw1;have b2:=zG hw2;have q1:=zQ hw1;have q2:=zQ hw2;have l1:=zL q1;have l2:=zL q2;have B02:Hid (zb w w2):=zH (b1.trans (b2.mono b1.size));have s02:w.heap.size<=w2.heap.size:=B02.o.size;have SC:Hid (∀W,zb w2 W->(zc W w.heap.size 0 (zI kd)/\zc W w.heap.size 1 (zI ar)/\zc W w.heap.size 2 (.slice Ao os.length co))/\(zc W w1.heap.size 0 (zI kd')/\zc W w1.heap.size 1 (zI ar')/\zc W w1.heap.size 2 (.slice Ap os'.length cp))):=zH (fun W hW =>
  ⟨cells3o ((hW.block _ (by omega)).trans ((b2.block _ (by omega)).trans q1)),cells3o ((hW.block _ (by omega)).trans q2)⟩)
 have Q2:=zH (hQ.below B02.o);have hfl:=hQ.fl;have hn:=hQ.n;have hm:=hQ.m;obtain⟨n,hnn⟩:∃n,fs.length=n:=⟨_,rfl⟩;have HN:=zH hnn;have hn64:n<=64:=by omega
 have HALLN:Hid ((flat fs++ts++us).length=2*n+ts.length+us.length):=zH (by rw[Zq,Zq,flat_len,hnn]);have HALLO:=zH hall;have HALLS:Hid (∀t∈flat fs++ts++us,t.size<=1000000):=zH (fun t ht=>by
  rw[List.append_assoc] at ht;rcases List.mem_append.1 ht with ht | ht
  ·exact flat_of fs (fun t=>t.size<=1000000) (fun f hf=>by have:=hQ.fz f hf;exact⟨by omega,by omega⟩) t ht
  have:=hQ.st t ht;omega)
 have HRL:Hid (∀k(h:k<fs.length),fs[k].rel=1\/fs[k].rel=2\/fs[k].rel=3):=zH (fun k h=>hQ.rl _ (Ze h));obtain⟨xsT,e1,e2,e3,e4⟩:=treesAt_part Q2.o.ts;obtain⟨xsU,g1,g2,g3,g4⟩:=treesAt_part Q2.o.us;have HPT:=zJ e1 (And.intro e2 (And.intro e3 e4));have HPU:=zJ g1 (And.intro g2 (And.intro g3 g4));obtain⟨aL,rfl⟩:∃a,L=some a:=by
  cases L with
  |none=>have:=(hQ.l rfl).1;omega
  |some a=>exact⟨a,rfl⟩
 obtain⟨aR,rfl⟩:∃a,R=some a:=by
  cases R with
  |none=>have:=(hQ.r rfl).1;omega
  |some a=>exact⟨a,rfl⟩
 have I0:Hid (AllI w2 (flat (fs.take 0)) zS w2):=zH ⟨[],World.ownsRow_nil w2 w2.heap.size _ 4,by rw[List.take_zero,flat,RowP],zB _ _⟩;clear hall hv1 hv2 hsh hc hQ b1 b2 q1 q2 e1 e2 e3 e4 g1 g2 g3 g4 hO hP;rw[hnn];clear hnn hfl;go_enter Tryz.func40,Tryz.ntmps40;go_wp2_with fail;go_loopw [13,14] (fun v i wr=>∃k:Nat,k<=n/\i=zI (k:Int)/\Hid (AllI w2 (flat (fs.take k)) v wr)) (fun _ i _=>n-(intOf i).toNat);case atStart=>exact⟨0,by omega,rfl,I0⟩
 clear I0 hw1 hw2;obtain⟨k,hk,rfl,HI⟩:=hrel;by_cases hlt:k<n
 ·have hlt2:k<fs.length:=by rw[HN.o];exact hlt
  obtain⟨bf,fo,rfl,hbf,_,kl,nl,pl,tl,Al,cl',kr,nr,pr,tr,Ar',cr2,el,er,⟨c0,c1,c2,c3⟩,c4,⟨c5,c6,c7,c8⟩,vl,vr⟩:=FactsP.at_ Q2.o.fs hlt2;have HFT:=zH (flat_take fs k hlt2);have HROW:Hid (RowP (fun b=>b<w2.heap.size) w2 [fs[k].l,fs[k].r] [zI kl,S nl,zI pl,.slice Al tl.length cl',zI kr,S nr,zI pr,.slice Ar' tr.length cr2]):=zH (by
   have h1:=TreeV.toP (q:=fun b=>b<w2.heap.size) (fun _ h=>h) vl.toV;have h2:=TreeV.toP (q:=fun b=>b<w2.heap.size) (fun _ h=>h) vr.toV;obtain⟨a0,a1,a2,a3,ha,h1⟩:=h1;obtain⟨b0,b1,b2,b3,hb,h2⟩:=h2;injection ha with ha;injection hb with hb;simp only[Array.mk.injEq,List.cons.injEq,and_true] at ha hb;obtain⟨rfl,rfl,rfl,rfl⟩:=ha;obtain⟨rfl,rfl,rfl,rfl⟩:=hb;exact(RowP.one h2).append (RowP.one h1))
  have hi0:=zP k;have hi1:(k:Int)<(n:Int):=by omega
  obtain⟨xs,hown,hrow,hbw⟩:=HI.o;have SD:Hid (∀W,zb w2 W->(zc W bf (fo+k*9) (zI kl)/\zc W bf (fo+k*9+1) (S nl)/\zc W bf (fo+k*9+2) (zI pl)/\zc W bf (fo+k*9+3) (.slice Al tl.length cl'))/\(zc W bf (fo+k*9+5) (zI kr)/\zc W bf (fo+k*9+6) (S nr)/\zc W bf (fo+k*9+7) (zI pr)/\zc W bf (fo+k*9+8) (.slice Ar' tr.length cr2))):=zH (fun W hW=>⟨⟨(hW.cell (p:=⟨bf,fo+k*9,none⟩) hbf).trans c0,(hW.cell (p:=⟨bf,fo+k*9+1,none⟩) hbf).trans c1,(hW.cell (p:=⟨bf,fo+k*9+2,none⟩) hbf).trans c2,(hW.cell (p:=⟨bf,fo+k*9+3,none⟩) hbf).trans c3⟩,⟨(hW.cell (p:=⟨bf,fo+k*9+5,none⟩) hbf).trans c5,(hW.cell (p:=⟨bf,fo+k*9+6,none⟩) hbf).trans c6,(hW.cell (p:=⟨bf,fo+k*9+7,none⟩) hbf).trans c7,(hW.cell (p:=⟨bf,fo+k*9+8,none⟩) hbf).trans c8⟩⟩);have hfl2:(flat (fs.take k)).length<=128:=by rw[flat_len,List.length_take];omega
  obtain⟨T,hT⟩:∃T,flat (fs.take k)=T:=⟨_,rfl⟩;rw[hT] at hown hrow hfl2 HFT;have HO:=zH hown;have HRW:=zH hrow;have HBW:=zH hbw;clear hT HI hown hrow hbw c0 c1 c2 c3 c4 c5 c6 c7 c8 vl vr el er hbf;have B2d:=zH HBW.o.drew;obtain⟨⟨d0,d1,d2,d3⟩,⟨d5,d6,d7,d8⟩⟩:=SD.o _ HBW.o;go_upto_region 5 with fail;refine wp_region_held_drew (S:=fun W=>(zc W bf (fo+k*9) (zI kl)/\zc W bf (fo+k*9+1) (S nl)/\zc W bf (fo+k*9+2) (zI pl)/\zc W bf (fo+k*9+3) (.slice Al tl.length cl'))/\(zc W bf (fo+k*9+5) (zI kr)/\zc W bf (fo+k*9+6) (S nr)/\zc W bf (fo+k*9+7) (zI pr)/\zc W bf (fo+k*9+8) (.slice Ar' tr.length cr2))) (by kernel_rfl) ?_ (fun hH=>?_)
  ·exact SD.o _ B2d.o
  clear d0 d1 d2 d3 d5 d6 d7 d8;refine tk 0 ?_;refine tk 1 ?_;refine tk 2 ?_;refine tk 3 ?_;refine tk 4 ?_;refine tk 5 ?_;refine tk 6 ?_;refine tk 7 ?_;refine tk 8 ?_;refine tk 9 ?_;refine tk 10 ?_;have b45:zb wr ((wr.alloc (.cells #[zI kl,S nl,zI pl,.slice Al tl.length cl',zI kr,S nr,zI pr,.slice Ar' tr.length cr2] 51)).drew):=((zB _ _).alloc (zN _) _).drew;refine rd1 11 (fun K hK=>?_);go_simp;refine hK.out _ _ (SD.o _ (HBW.o.trans (b45.mono HBW.o.size))) (fun hH=>nrm ?_);clear hK K;have q5:((wr.alloc (.cells #[zI kl,S nl,zI pl,.slice Al tl.length cl',zI kr,S nr,zI pr,.slice Ar' tr.length cr2] 51)).drew).heap[wr.heap.size]?=some (.cells #[zI kl,S nl,zI pl,.slice Al tl.length cl',zI kr,S nr,zI pr,.slice Ar' tr.length cr2] 51 (0,0)):=zW _ _;obtain⟨w5,hw5⟩:∃w5,(wr.alloc (.cells #[zI kl,S nl,zI pl,.slice Al tl.length cl',zI kr,S nr,zI pr,.slice Ar' tr.length cr2] 51)).drew=w5:=⟨_,rfl⟩;rw[hw5] at b45 q5 hH ⊢;clear hw5;have HB5:Hid (zb w2 w5):=zH (HBW.o.trans (b45.mono HBW.o.size));have HO5:Hid (w5.ownsRow w2.heap.size 51 4 u13 T.length xs):=zH (ownsRow_keep HO.o (fun g hg=>b45.block g (HO.o.lt g hg).2));have HR5:Hid (RowP (fun b=>b<w2.heap.size) w5 T xs):=zH (HRW.o.keep (fun b _ hlt=>b45.block b hlt) b45.size (fun _ _ h=>h));have Q5:=zH q5;clear b45 q5 HO HRW;refine rd1 12 (fun K hK=>?_);refine step_append_own_at _ (by rfl) _ _ 27 (by rfl) w2.heap.size 51 i0 _ 4 56 Tryz.underlying27 hi hz0 hz1 hz2 rfl (by decide) _ _ _ (by rfl) HO5.o ⟨wr.heap.size,0,none⟩ 2 2 [zI kl,S nl,zI pl,.slice Al tl.length cl',zI kr,S nr,zI pr,.slice Ar' tr.length cr2] (by rfl) rfl (cells_news Q5.o) oneCell8 (by unfold maxLen;omega) (by omega) HB5.o.size ?_;intro v9 w9 hown9 hg9 _;have hb9:zb w2 w9:=Below.grown HB5.o hg9 HB5.o.size (fun b e=>(HO5.o.lt b e).1);refine hK.out _ _ (SD.o _ hb9) (fun hH=>?_);clear hK K hb9;refine nrm ?_;refine tk 13 ?_;refine Zw ?_ _;clear hH;have HZ:Hid (AllI w2 (flat (fs.take (k+1))) v9 w9):=zH (by rw[HFT.o];exact AllI.push HR5.o HB5.o HO5.o HROW.o rfl hown9 hg9);clear hown9 hg9;go_wp2_with fail;go_roundw;case rel=>exact⟨k+1,by omega,by go_num,HZ⟩
  case measure=>simp[intOf];omega
 have hkN:k=n:=by omega
 have hi0:¬((k:Int)<(n:Int)):=by omega
 have HI2:Hid (AllI w2 (flat fs) u13 wr):=zH (by have h:=HI.o;rwa[List.take_of_length_le (by rw[HN.o];omega)] at h);obtain⟨xs,hown,hrow,hbw⟩:=HI2.o;have hfl2:(flat fs).length<=128:=by rw[flat_len,HN.o];omega
 have HO:=zH hown;have HRW:=zH hrow;have HBW:=zH hbw;obtain⟨T,hT⟩:∃T,flat fs=T:=⟨_,rfl⟩;rw[hT] at HO HRW hfl2 HALLN HALLO HALLS;obtain⟨nt,hnt⟩:∃nt,ts.length=nt:=⟨_,rfl⟩;obtain⟨nu,hnu⟩:∃nu,us.length=nu:=⟨_,rfl⟩;have HNT:=zH hnt;have HNU:=zH hnu;have hnt1:nt<=1000:=by omega
 have hnu1:nu<=1000:=by omega
 have HCT:Hid (∀j u,xsT[j]?=some u->wr.cell? (aL.add j)=some u):=zH (fun j u hj=>by
  have h1:=HPT.o.2.2.1 aL rfl j u hj;obtain⟨b,o,hA,hb,_⟩:=Q2.o.ts (by intro h;rw[h] at hpos1;cases hpos1);injection hA with hA;rw[hA,addr_add0] at h1 ⊢;exact(hbw.cell (p:=⟨b,o+j,none⟩) hb).trans h1)
 clear hT HI HI2 hown hrow hkN;rw[hnt,hnu];clear hbw;go_wp2_with (at_builtin;refine wpList_append_own_at _ rfl _ _ 27 rfl w2.heap.size 51 i0 _ 4 56 Tryz.underlying27 hi hz0 hz1 hz2 rfl (by decide) _ _ _ rfl HO.o aL nt cl xsT rfl (by rw[HPT.o.1,HNT.o]) HCT.o HPT.o.2.2.2 (by unfold maxLen;omega) (by omega) HBW.o.size ?_);intro v9 w9 hown9 hg9 _ _;have HZ:Hid (AllI w2 (T++ts) v9 w9):=zH (AllI.push HRW.o HBW.o HO.o HPT.o.2.1 hnt hown9 hg9);clear hown9 hg9 HO HRW HBW HCT;obtain⟨xs2,hown2,hrow2,hbw2⟩:=HZ.o;have HO2:=zH hown2;have HRW2:=zH hrow2;have HBW2:=zH hbw2;have hfl3:(T++ts).length<=1128:=by rw[Zq];omega
 have HCU:Hid (∀j u,xsU[j]?=some u->w9.cell? (aR.add j)=some u):=zH (fun j u hj=>by
  have h1:=HPU.o.2.2.1 aR rfl j u hj;obtain⟨b,o,hA,hb,_⟩:=Q2.o.us (by intro h;rw[h] at hpos2;cases hpos2);injection hA with hA;rw[hA,addr_add0] at h1 ⊢;exact(hbw2.cell (p:=⟨b,o+j,none⟩) hb).trans h1)
 obtain⟨T2,hT2⟩:∃T2,T++ts=T2:=⟨_,rfl⟩;rw[hT2] at HO2 HRW2 hfl3 HALLN HALLO HALLS;clear HZ hown2 hrow2 hbw2 hT2;go_wp2_with (at_builtin;refine wpList_append_own_at _ rfl _ _ 27 rfl w2.heap.size 51 i0 _ 4 56 Tryz.underlying27 hi hz0 hz1 hz2 rfl (by decide) _ _ _ rfl HO2.o aR nu cr xsU rfl (by rw[HPU.o.1,HNU.o]) HCU.o HPU.o.2.2.2 (by unfold maxLen;omega) (by omega) HBW2.o.size ?_);intro v10 w10 hown10 hg10 _ _;have HZ:Hid (AllI w2 (T2++us) v10 w10):=zH (AllI.push HRW2.o HBW2.o HO2.o HPU.o.2.1 hnu hown10 hg10);clear hown10 hg10 HO2 HRW2 HBW2 HCU;obtain⟨all,hall⟩:∃all,T2++us=all:=⟨_,rfl⟩;rw[hall] at HZ HALLN HALLO HALLS;clear hall;obtain⟨xs3,hown3,hrow3,hbw3⟩:=HZ.o;obtain⟨Aa,ca,rfl,hta⟩:=treesAt_own hown3 hrow3;have hlen:all.length<=1000000:=by have:=HALLN.o;omega
 have hallo:=allO_true all;have CFo:=zH (fun W (hW:zb w10 W)=>rFormedO_any all Aa ca W hlen HALLS.o (hallo.1 HALLO.o) (hta.below hW));have COb:=zH (fun W (hW:zb w10 W)=>by
  have h:=rObjects_any all Aa ca W hlen HALLS.o (hta.below hW);rw[HALLO.o] at h;exact h)
 have B10:=zH hbw3;clear hown3 hrow3 hta hallo hbw3 HZ;go_wp2_with fail;refine(CFo.o _ (zB _ _)).mono ?_;rintro e w11⟨rfl,b11⟩;have B11:=zH b11;have COb2:=zH (COb.o _ b11);clear CFo COb b11;go_wp2_with fail;refine COb2.o.mono ?_;rintro e w12⟨rfl,b12'⟩;have hb12:zb w2 w12:=B10.o.trans ((B11.o.trans (b12'.mono B11.o.size)).mono B10.o.size);have B12:=zH hb12;obtain⟨⟨x0,x1,x2⟩,⟨y0,y1,y2⟩⟩:=SC.o _ hb12;have hn641:¬((n:Int)>64):=by omega
 have hn642:decide ((n:Int)>64)=false:=Zu (by omega);have hn643:decide (64<n)=false:=Zu (by omega);have CV1:Hid (∀W,zb w2 W->Calls Tryz.prog 66 #[.agg #[zI kd,zI ar,.slice Ao os.length co],zI (nt:Int)] W fun e w'=>e=.returned (zI 0)/\zb W w'):=zH (fun W hW=>by
  have h:=rValid_any o _ (nt:Int) W (by have:=Q2.o.os;omega) (by omega) (by omega) (Q2.o.vo.below hW);rw[<-HNT.o,HV1.o,HNT.o] at h;exact h)
 have CV2:Hid (∀W,zb w2 W->Calls Tryz.prog 66 #[.agg #[zI kd',zI ar',.slice Ap os'.length cp],zI (nu:Int)] W fun e w'=>e=.returned (zI 0)/\zb W w'):=zH (fun W hW=>by
  have h:=rValid_any p _ (nu:Int) W (by have:=Q2.o.ps;omega) (by omega) (by omega) (Q2.o.vp.below hW);rw[<-HNU.o,HV2.o,HNU.o] at h;exact h)
 have CSH:Hid (∀W,zb w2 W->Calls Tryz.prog 67 #[.agg #[zI kd,zI ar,.slice Ao os.length co],.agg #[zI kd',zI ar',.slice Ap os'.length cp]] W fun e w'=>e=.returned (.bool true)/\zb W w'):=zH (fun W hW=>by
  have h:=rShape_upto 1000000 (by omega) o p _ _ W (by have:=Q2.o.os;omega) (by have:=Q2.o.ps;omega) (Q2.o.vo.below hW) (Q2.o.vp.below hW);rw[HSH.o] at h;exact h)
 have CV1a:=zH (CV1.o _ hb12);clear b12' hb12;go_wp2_with fail;refine CV1a.o.mono ?_;rintro e w13⟨rfl,b13'⟩;have b13:zb w2 w13:=B12.o.trans (b13'.mono B12.o.size);have CV2a:=zH (CV2.o _ b13);have B13:=zH b13;clear x0 x1 x2 y0 y1 y2 CV1a CV1 CV2;obtain⟨⟨x0,x1,x2⟩,⟨y0,y1,y2⟩⟩:=SC.o _ b13;clear b13' b13;go_wp2_with fail;refine CV2a.o.mono ?_;rintro e w14⟨rfl,b14'⟩;have b14:zb w2 w14:=B13.o.trans (b14'.mono B13.o.size);have CSHa:=zH (CSH.o _ b14);have B14:=zH b14;clear x0 x1 x2 y0 y1 y2 CV2a CSH;obtain⟨⟨x0,x1,x2⟩,⟨y0,y1,y2⟩⟩:=SC.o _ b14;clear b14' b14;go_wp2_with fail;refine CSHa.o.mono ?_;rintro e w15⟨rfl,b15'⟩;have b15:zb w2 w15:=B14.o.trans (b15'.mono B14.o.size);have B15:=zH b15;have CRa:=zH (rRelated_any rel w15 hrel);clear b15' b15 CSHa x0 x1 x2 y0 y1 y2;go_wp2_with fail;refine CRa.o.mono ?_;rintro e w15'⟨rfl,rfl⟩;clear CRa;go_wp2_with fail;go_loopw [18,19] (fun b i wz=>∃k:Nat,k<=n/\b=.bool false/\i=zI (k:Int)/\Hid (zb w2 wz)) (fun _ i _=>n-(intOf i).toNat);case atStart=>exact⟨0,by omega,rfl,rfl,B15⟩
 obtain⟨k',hk',rfl,rfl,HI⟩:=hrel;by_cases hlt:k'<n
 ·have hlt2:k'<fs.length:=by rw[HN.o];exact hlt
  obtain⟨bf,fo,rfl,hbf,_,kl,nl,pl,tl,Al,cl',kr,nr,pr,tr,Ar',cr2,_,_,_,c4,_,_,_⟩:=FactsP.at_ Q2.o.fs hlt2;have hbw:=HI.o;have d4:=(hbw.cell (p:=⟨bf,fo+k'*9+4,none⟩) hbf).trans c4;have hrk:=HRL.o k' hlt2;obtain⟨r,hr⟩:∃r,fs[k'].rel=r:=⟨_,rfl⟩;rw[hr] at d4 hrk;have CRb:=zH (rRelated_any r wr hrk);have hi0':(0:Int)<=(k':Int):=zP _;have hi1':(k':Int)<(n:Int):=by omega
  have HBW:=zH hbw;clear hr hbw c4 hbf hrk;go_wp2_with fail;refine CRb.o.mono ?_;rintro e wq⟨rfl,rfl⟩;clear CRb d4;go_wp2_with fail;go_roundw;case rel=>exact⟨k'+1,by omega,rfl,by go_num,HBW⟩
  case measure=>simp[intOf];omega
 have hi0':¬((k':Int)<(n:Int)):=by omega
 have HY:=zH (B02.o.trans (HI.o.mono s02));clear HI;go_wp2_with fail;go_ret;exact⟨rfl,HY.o⟩
theorem rVerify_any(fs:List Fact)(F:Option Addr)(o p:Lfc.Ord)(vo vp:Value)(ts us:List Raw)(L R:Option Addr)(f0 cl cr c0:Nat)(ks:List Int)(A0:Option Addr)(rel:Int)(q:Nat->Prop)(x:Prf)(v0 v1 v2 v3:Value)(w:World)(hQ:QuO w fs F o p vo vp ts us L R cl cr ks A0)(hrel:rel=1\/rel=2\/rel=3)(hc:chkF fs o p ts us=0)(hxs:x.size<=1000000)(hxo:x.ok 1000000 1000000)(hP:PrfP q w x v0 v1 v2 v3) :
  Calls Tryz.prog 15 #[.slice F fs.length f0,zI rel,vo,.slice L ts.length cl,vp,.slice R us.length cr,.slice A0 ks.length c0,.agg #[v0,v1,v2,v3]] w fun e w'=>e=.returned (.bool (vrf ks fs ts us (odsOf o p) rel x))/\zb w w':=by
 have HQ:=zH hQ;obtain⟨kd,ar,no,Ao,co,rfl⟩:∃kd ar n A c,vo=.agg #[zI kd,zI ar,.slice A n c]:=by
  have h:=hQ.vo;obtain⟨k,a,ps⟩:=o;obtain⟨A,c,rfl,_,_⟩:=h.open_;exact⟨k,a,ps.length,A,c,rfl⟩
 obtain⟨kd',ar',no',Ap,cp,rfl⟩:∃kd ar n A c,vp=.agg #[zI kd,zI ar,.slice A n c]:=by
  have h:=hQ.vp;obtain⟨k,a,ps⟩:=p;obtain⟨A,c,rfl,_,_⟩:=h.open_;exact⟨k,a,ps.length,A,c,rfl⟩
 have CE:=zH (fun W (hW:zb w W)=>rError_any fs F o p _ _ ts us L R f0 cl cr ks A0 rel W (hQ.below hW) hrel hc);obtain⟨_,_,hv1,hv2,hsh⟩:=chkF_zero hc;have z1:=vld_zero hv1;have z2:=vld_zero hv2;have CP:=zH (fun W (hW:zb w W)=>rProves_upto F A0 L R f0 c0 cl cr fs ks ts us hQ.kl (by have:=hQ.fl;omega) (fun f hf=>by have:=hQ.fz f hf;exact⟨by omega,by omega⟩) (fun t ht=>by have:=hQ.st t (List.mem_append_left _ ht);omega) (fun t ht=>by have:=hQ.st t (List.mem_append_right _ ht);omega) (by have:=hQ.n;omega) (by have:=hQ.m;omega) 1000 (zN _) q o p rel x v0 v1 v2 v3 _ _ W hQ.os hsh z1.2.1 z2.2.1 z1.2.2 z2.2.2 hrel (hQ.vo.below hW) (hQ.vp.below hW) hxs hxo (PrfP.below hP hW) ⟨(hQ.below hW).fs,(hQ.below hW).ks.toO,(hQ.below hW).ts,(hQ.below hW).us⟩);obtain⟨r,hr⟩:∃r,vrf ks fs ts us (odsOf o p) rel x=r:=⟨_,rfl⟩;rw[hr] at CP ⊢;obtain⟨w1,hw1⟩:∃w1,w.alloc (.cells #[zI kd,zI ar,.slice Ao no co] 26)=w1:=⟨_,rfl⟩;obtain⟨w2,hw2⟩:∃w2,w1.alloc (.cells #[zI kd',zI ar',.slice Ap no' cp] 26)=w2:=⟨_,rfl⟩;obtain⟨w3,hw3⟩:∃w3,w2.alloc (.cells #[v0,v1,v2,v3] 39)=w3:=⟨_,rfl⟩;have b1:=zG hw1;have b2:=zG hw2;have b3:=zG hw3;have q1:=zQ hw1;have q2:=zQ hw2;have q3:=zQ hw3;have l1:=zL q1;have l2:=zL q2;have l3:=zL q3;have B03:Hid (zb w w3):=zH ((b1.trans (b2.mono b1.size)).trans (b3.mono (by omega)));have s03:w.heap.size<=w3.heap.size:=B03.o.size;have SC:Hid (∀W,zb w3 W->(zc W w.heap.size 0 (zI kd)/\zc W w.heap.size 1 (zI ar)/\zc W w.heap.size 2 (.slice Ao no co))/\(zc W w1.heap.size 0 (zI kd')/\zc W w1.heap.size 1 (zI ar')/\zc W w1.heap.size 2 (.slice Ap no' cp))/\(zc W w2.heap.size 0 v0/\zc W w2.heap.size 1 v1/\zc W w2.heap.size 2 v2/\zc W w2.heap.size 3 v3)):=zH (fun W hW =>
  ⟨cells3o ((hW.block _ (by omega)).trans ((b3.block _ (by omega)).trans ((b2.block _ (by omega)).trans q1))),cells3o ((hW.block _ (by omega)).trans ((b3.block _ (by omega)).trans q2)),cells4v ((hW.block _ (by omega)).trans q3)⟩)
 obtain⟨ix,ps,ch,bk,A,A1,A2,c,c1,c2,_,rfl,rfl,rfl,rfl⟩:=hP.open_;have CE3:=zH (CE.o _ B03.o);clear hQ hc hP hxs hxo hv1 hv2 hsh z1 z2 b1 b2 b3 q1 q2 q3 hr CE;obtain⟨⟨x0,x1,x2⟩,⟨y0,y1,y2⟩,⟨z0,z1,z2,z3⟩⟩:=SC.o _ (zB _ _);go_enter Tryz.func15,Tryz.ntmps15;go_wp2_with fail;refine CE3.o.mono ?_;rintro e w4⟨rfl,b4⟩;clear x0 x1 x2 y0 y1 y2 z0 z1 z2 z3 CE3 hw1 hw2 hw3;obtain⟨⟨x0,x1,x2⟩,⟨y0,y1,y2⟩,⟨z0,z1,z2,z3⟩⟩:=SC.o _ b4;have b04:=B03.o.trans (b4.mono s03);have HB4:=zH b04;have CP4:=zH (CP.o _ b04);clear b4 b04 CP;go_wp2_with fail;refine CP4.o.mono ?_;rintro e w5⟨rfl,b5⟩;have HZ:=zH (HB4.o.trans (b5.mono HB4.o.size));clear b5;go_wp2_with fail;go_ret;exact⟨rfl,HZ.o⟩
end Go.Proofs.YtadjpadieljjlaaGreat
