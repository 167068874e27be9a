/- Parts of the proof that no input makes the law false: OvV, OvLex, OvSim, OvAll, OvH, OvK. -/
import Derived.Test.YtadjpadieljjlaaGreatWvAT
set_option linter.unusedVariables false
set_option linter.unusedSimpArgs false
set_option maxRecDepth 100000
set_option maxHeartbeats 32000000
namespace Lfc
theorem vrfs_drop(ks:List Int)(fs:List Fact)(ts us:List Raw)(w:Nat→Int)(qs:List Ods)(ps:List Prf)(k:Nat)(h:k<qs.length)(h':k<ps.length) :
  vrfs ks fs ts us (qs.drop k) w (ps.drop k) k=(vrf ks fs ts us qs[k] (w k) ps[k] && vrfs ks fs ts us (qs.drop (k+1)) w (ps.drop (k+1)) (k+1)):=by
 rw[List.drop_eq_getElem_cons h,List.drop_eq_getElem_cons h',vrfs]
theorem vrfs_end(ks:List Int)(fs:List Fact)(ts us:List Raw)(w:Nat→Int)(qs:List Ods)(ps:List Prf)(k:Nat)(h':ps.length≤k):vrfs ks fs ts us (qs.drop k) w (ps.drop k) k=true:=by
 rw[List.drop_eq_nil_of_le h',vrfs]
theorem dimpV(p q:Prop)[Decidable p][Decidable q]:decide (p→q)=(!(decide p) || decide q):=by
 by_cases hp:p <;> simp[hp]
theorem diffV(p q:Prop)[Decidable p][Decidable q]:decide (p↔q)=(decide p == decide q):=by
 by_cases hp:p <;> by_cases hq:q <;> simp[hp,hq]
def bareB(n1 n2:Nat)(ix:Int)(n:Nat):Bool:=((decide (n1=0) && decide (n2=0)) && decide (0≤ix)) && decide (ix≤(n:Int))
theorem vrf_lex(ks:List Int)(fs:List Fact)(ts us:List Raw)(qs:List Ods)(rel ix:Int)(ps:List Prf)(ch bk:List Link) :
  vrf ks fs ts us (.lex qs) rel (.node ix ps ch bk)=(!(((!(bareB ch.length bk.length ix qs.length) || (decide (rel=1) && !(decide (ix<(qs.length:Int))))) || (decide (rel=3) && decide (ix<(qs.length:Int)))) || !(decide ((ps.length:Int)=min (ix+1) (qs.length:Int)))) && vrfs ks fs ts us qs (fun i=>if (i:Int)=ix then 1 else 3) ps 0):=by
 rw[vrf,bareB,dimpV,dimpV,decide_not]
 congr 1
 generalize decide (ch.length=0)=a1;generalize decide (bk.length=0)=a2;generalize decide (0≤ix)=a3;generalize decide (ix≤(qs.length:Int))=a4;generalize decide (rel=1)=a5;generalize decide (rel=3)=a6;generalize decide (ix<(qs.length:Int))=a7;generalize decide ((ps.length:Int)=min (ix+1) (qs.length:Int))=a8
 revert a1 a2 a3 a4 a5 a6 a7 a8
 decide
theorem vrf_sim(ks:List Int)(fs:List Fact)(ts us:List Raw)(qs:List Ods)(rel ix:Int)(ps:List Prf)(ch bk:List Link) :
  vrf ks fs ts us (.sim qs) rel (.node ix ps ch bk)=(!((!(bareB ch.length bk.length ix qs.length) || !(decide (ix<(qs.length:Int)) == decide (rel=1))) || !(decide (ps.length=qs.length))) && vrfs ks fs ts us qs (fun i=>if rel=3 then 3 else if (i:Int)=ix then 1 else 2) ps 0):=by
 rw[vrf,bareB,diffV,show decide ((ps.length:Int)=(qs.length:Int))=decide (ps.length=qs.length) by rw[Bool.eq_iff_iff];simp;omega]
 congr 1
 generalize decide (ch.length=0)=a1;generalize decide (bk.length=0)=a2;generalize decide (0≤ix)=a3;generalize decide (ix≤(qs.length:Int))=a4;generalize decide (rel=1)=a5;generalize decide (ix<(qs.length:Int))=a7;generalize decide (ps.length=qs.length)=a8
 revert a1 a2 a3 a4 a5 a7 a8
 decide
end Lfc
namespace Go.Proofs.YtadjpadieljjlaaGreat
section
open Go.RowKit Go.Maps _root_.Lfc
attribute [local go_sem ↓] Go.wp_at_zero Go.wp_at_succ
def CanV(Bx:Nat)(ks:List Int)(fs:List Fact)(ts us:List Raw)(w:World)(p:Ods)(v:Value):Prop :=
 ∃ (T : TypeId) (a : Value) (f : FuncId), v = .iface T a ∧ (∀ (k : Nat) (W : World), (method (k + 1) T a "lfcheck/order.verify").run Tryz.prog W = .ok (f, a) W) ∧ (∀ (xs : Array Value) (W : World), (callFunc f xs).run Tryz.prog W = .ok (.enter f xs) W) ∧
  ∀(w1:World)(q:Nat→Prop)(rel:Int)(x:Prf)(v0 v1 v2 v3:Value),Below w.heap.size w w1→(rel=1∨rel=2∨rel=3)→x.size≤1000000→x.ok 1000000 1000000→PrfP q w1 x v0 v1 v2 v3 →
   Calls Tryz.prog f #[a,.pointer (some ⟨Bx,0,none⟩),.int .i64 rel,.agg #[v0,v1,v2,v3]] w1 fun e w'=>e=.returned (.bool (vrf ks fs ts us p rel x))∧Below w1.heap.size w1 w'
theorem CanV.below{Bx:Nat}{ks:List Int}{fs:List Fact}{ts us:List Raw}{w w':World}{p:Ods}{v:Value}(h:CanV Bx ks fs ts us w p v)(ho:Below w.heap.size w w'):CanV Bx ks fs ts us w' p v:=by
 obtain⟨T,a,f,hv,h1,h2,h3⟩:=h;exact⟨T,a,f,hv,h1,h2,fun w1 q rel x v0 v1 v2 v3 ho1=>h3 w1 q rel x v0 v1 v2 v3 (ho.trans (ho1.mono ho.size))⟩
def CansV(Bx:Nat)(ks:List Int)(fs:List Fact)(ts us:List Raw)(w:World)(A:Option Addr)(qs:List Ods):Prop :=
 ∀i(h:i<qs.length),∃b o v,A=some ⟨b,o,none⟩∧b<w.heap.size∧w.cell? ⟨b,o+i,none⟩=some v∧CanV Bx ks fs ts us w qs[i] v
theorem CansV.below{Bx:Nat}{ks:List Int}{fs:List Fact}{ts us:List Raw}{w w':World}{A:Option Addr}{qs:List Ods}(h:CansV Bx ks fs ts us w A qs)(ho:Below w.heap.size w w'):CansV Bx ks fs ts us w' A qs:=fun i hi=>by
 obtain⟨b,o,v,hA,hb,hc,hcan⟩:=h i hi;exact⟨b,o,v,hA,Zl hb ho.size,(ho.cell (p:=⟨b,o+i,none⟩) hb).trans hc,hcan.below ho⟩
theorem oBare_any(ix:Int)(n1 n2 np n:Nat)(Aq A1 A2:Option Addr)(cq c1 c2:Nat)(w:World) :
  Calls Tryz.prog 154 #[.agg #[zI ix,.slice Aq np cq,.slice A1 n1 c1,.slice A2 n2 c2],zI (n:Int)] w fun e w'=>e=.returned (.bool (bareB n1 n2 ix n))/\zb w w':=by
 obtain⟨w1,hw1⟩:∃w1,w.alloc (.cells #[zI ix,.slice Aq np cq,.slice A1 n1 c1,.slice A2 n2 c2] 39)=w1:=⟨_,rfl⟩;have b1:=zG hw1;have q1:=zQ hw1;obtain⟨y0,y1,y2,y3⟩:=cells4v q1;have B1:=zH b1;obtain⟨R,hR⟩:∃R,bareB n1 n2 ix n=R:=⟨_,rfl⟩;rw[hR];have HR:Hid (bareB n1 n2 ix n=R):=zH hR;clear b1 q1 hR;go_enter Tryz.func154,Tryz.ntmps154;by_cases h1:n1=0
 ·subst h1;by_cases h2:n2=0
  ·subst h2;by_cases h3:0<=ix
   ·have e1:decide (ix≥0)=true:=Zt h3;have e2:decide (0<=ix)=true:=Zt h3;by_cases h4:ix<=(n:Int)
    ·have e3:decide (ix<=(n:Int))=true:=Zt h4;have HZ:Hid (R=true):=zH (by rw[<-HR.o,bareB,e2,e3];rfl);go_wp2_with fail;go_ret;exact⟨by rw[HZ.o];rfl,B1.o⟩
    have e3:decide (ix<=(n:Int))=false:=Zu h4;have HZ:Hid (R=false):=zH (by rw[<-HR.o,bareB,e2,e3];rfl);go_wp2_with fail;go_ret;exact⟨by rw[HZ.o];rfl,B1.o⟩
   have e1:decide (ix≥0)=false:=Zu h3;have e2:decide (0<=ix)=false:=Zu h3;have HZ:Hid (R=false):=zH (by rw[<-HR.o,bareB,e2];rfl);go_wp2_with fail;go_ret;exact⟨by rw[HZ.o];rfl,B1.o⟩
  have e1:((n2:Int) == 0)=false:=by simp;omega
  have e2:decide (n2=0)=false:=by simpa using h2
  have HZ:Hid (R=false):=zH (by rw[<-HR.o,bareB,e2];rfl);go_wp2_with fail;go_ret;exact⟨by rw[HZ.o];rfl,B1.o⟩
 have e1:((n1:Int) == 0)=false:=by simp;omega
 have e2:decide (n1=0)=false:=by simpa using h1
 have HZ:Hid (R=false):=zH (by rw[<-HR.o,bareB,e2];rfl);go_wp2_with fail;go_ret;exact⟨by rw[HZ.o];rfl,B1.o⟩
end
section
open Go.RowKit Go.Maps _root_.Lfc
theorem oLexV_any(q:Nat->Prop)(Bx:Nat)(fs:List Fact)(ks:List Int)(ts us:List Raw)(qs:List Ods)(rel ix:Int)(ps:List Prf)(ch bk:List Link)(A Aq A1 A2:Option Addr)(c cq cc1 cc2:Nat)(w:World)
  (hE:CansV Bx ks fs ts us w A qs) (hn:qs.length<=1000000) (hrel:rel=1\/rel=2\/rel=3) (hsz:(Prf.node ix ps ch bk).size<=1000000) (hok:(Prf.node ix ps ch bk).ok 1000000 1000000)
  (hpp:ps≠[]->∃b o,Aq=some ⟨b,o,none⟩/\b<w.heap.size/\q b/\PrfsP q w b ps o) :
  Calls Tryz.prog 152 #[.agg #[.slice A qs.length c],.pointer (some ⟨Bx,0,none⟩),zI rel,.agg #[zI ix,.slice Aq ps.length cq,.slice A1 ch.length cc1,.slice A2 bk.length cc2]] w fun e w'=>e=.returned (.bool (vrf ks fs ts us (.lex qs) rel (.node ix ps ch bk)))/\zb w w':=by
 have HA:=vrf_lex ks fs ts us qs rel ix ps ch bk;obtain⟨ans,hans⟩:∃a,vrf ks fs ts us (.lex qs) rel (.node ix ps ch bk)=a:=⟨_,rfl⟩;obtain⟨V,hV⟩:∃V,vrfs ks fs ts us qs (fun i:Nat=>if (i:Int)=ix then(1:Int) else 3) ps 0=V:=⟨_,rfl⟩;rw[hans,hV] at HA;rw[hans];have HVV:=zH hV;have HOK:=zH hok;have hps:ps.length<=1000000:=by
  have:=Prf.sizes_len ps;rw[Prf.size] at hsz;omega
 have HSZ:=zH hsz;obtain⟨np,hnp⟩:∃n,ps.length=n:=⟨_,rfl⟩;obtain⟨nq,hnq⟩:∃n,qs.length=n:=⟨_,rfl⟩;obtain⟨n1,hn1⟩:∃n,ch.length=n:=⟨_,rfl⟩;obtain⟨n2,hn2⟩:∃n,bk.length=n:=⟨_,rfl⟩;rw[hnp,hnq,hn1,hn2] at HA;rw[hnp,hnq,hn1,hn2];rw[hnp] at hps;rw[hnq] at hn;have HNP:=zH hnp;have HNQ:=zH hnq;have HE:=zH hE;have HPP:=zH hpp;obtain⟨E0,hE0⟩:∃E,bareB n1 n2 ix nq=E:=⟨_,rfl⟩;rw[hE0] at HA;have HE0:=zH hE0;clear hans hV hok hsz hnp hnq hn1 hn2 hE hpp hE0;obtain⟨w1,hw1⟩:∃w1,w.alloc (.cells #[.slice A nq c] 120)=w1:=⟨_,rfl⟩;obtain⟨w2,hw2⟩:∃w2,w1.alloc (.cells #[zI ix,.slice Aq np cq,.slice A1 n1 cc1,.slice A2 n2 cc2] 39)=w2:=⟨_,rfl⟩;have b1:=zG hw1;have b2:=zG hw2;have q1:=zQ hw1;have q2:=zQ hw2;have l1:=zL q1;have l2:=zL q2;have B02:Hid (zb w w2):=zH (b1.trans (b2.mono (by omega)));have s02:=B02.o.size;have Q1:=zH ((b2.block _ l1).trans q1);have Q2:=zH q2;have y0:zc w2 w.heap.size 0 (.slice A nq c):=zC Q1.o 0;obtain⟨x0,x1,x2,x3⟩:=cells4v q2;have BARE:=zH (oBare_any ix n1 n2 np nq Aq A1 A2 cq cc1 cc2 w2);rw[HE0.o] at BARE;obtain⟨lb,hlb⟩:∃b,decide (ix<(nq:Int))=b:=⟨_,rfl⟩;obtain⟨mb,hmb⟩:∃b,decide ((np:Int)=min (ix+1) (nq:Int))=b:=⟨_,rfl⟩;rw[hlb,hmb] at HA;obtain⟨BAD,hBAD⟩:∃B,(((!E0 || (decide (rel=1) && !lb)) || (decide (rel=3) && lb)) || !mb)=B:=⟨_,rfl⟩;rw[hBAD] at HA;have HAA:=zH HA;have HB0:Hid ((((!E0 || (decide (rel=1) && !lb)) || (decide (rel=3) && lb)) || !mb)=BAD):=zH hBAD;have HLB:=zH hlb;have HMB:=zH hmb;clear HA hBAD hmb b1 b2 q1 q2;go_enter Tryz.func152,Tryz.ntmps152;go_upto_region 3 with fail;clear hw1 hw2;go_cut [50] (fun s wx=>s=.bool BAD/\Hid (zb w2 wx));case first =>
  cases E0 with
  |false =>
   go_wp2_with fail;refine BARE.o.mono ?_;rintro e w5⟨rfl,b5⟩;have B5:=zH b5;clear b5;go_wp2_with fail;go_meet;exact⟨by rw[<-HB0.o];rfl,B5⟩
  |true =>
   have hix:0<=ix/\ix<=(nq:Int):=by
    have h:=HE0.o;rw[bareB] at h;simp only[Za,Zd] at h;exact⟨h.1.2,h.2⟩
   obtain⟨m,rfl⟩:∃m:Nat,ix=(m:Int):=⟨ix.toNat,by omega⟩;have hmn:m<=nq:=(by omega);have hw8:IntKind.i64.wrap ((m:Int)+1)=(m:Int)+1:=Zi _ (by omega);have m1:((np:Int) == min ((m:Int)+1) (nq:Int))=mb:=(by rw[<-HMB.o,Bool.eq_iff_iff];simp);have m2:((np:Int) != min ((m:Int)+1) (nq:Int))=(!mb):=(by rw[bne,m1]);have m3:decide ((np:Int)=min ((m:Int)+1) (nq:Int))=mb:=HMB.o;clear hix hlb;have hlb:decide ((m:Int)<(nq:Int))=lb:=HLB.o;rcases hrel with rfl | rfl | rfl <;> cases lb <;> cases mb <;> (go_wp2_with fail;refine BARE.o.mono ?_;rintro e w5⟨rfl,b5⟩;have B5:=zH b5;have e5:=(b5.block _ l2).trans Q2.o;clear x0 x1 x2 x3 y0;obtain⟨x0,x1,x2,x3⟩:=cells4v e5;clear b5 e5;go_wp2_with fail;go_meet;exact⟨by rw[<-HB0.o];rfl,B5⟩)
 obtain⟨rfl,HC⟩:=hcut;have B0:Hid (zb w wc):=zH (B02.o.trans (HC.o.mono s02));have G1:Hid (zk wc w.heap.size #[.slice A nq c] 120):=zH ((HC.o.block _ (by omega)).trans Q1.o);have G2:Hid (zk wc w1.heap.size #[zI ix,.slice Aq np cq,.slice A1 n1 cc1,.slice A2 n2 cc2] 39):=zH ((HC.o.block _ l2).trans Q2.o);clear y0 x0 x1 x2 x3 hlb BARE;cases BAD with
 |true =>
  have HR:Hid (ans=false):=zH (by rw[HAA.o];rfl);go_wp2_with fail;go_ret;exact⟨by rw[HR.o];rfl,B0.o⟩
 |false =>
  have HR:Hid (ans=V):=zH (by rw[HAA.o];rfl);have hpq:np<=nq:=by
   have h:=HB0.o;have hm:mb=true:=by
    cases mb with
    |true=>rfl
    |false=>simp at h
   have h2:=HMB.o;rw[hm,Zd] at h2;omega
  obtain⟨x0,x1,x2,x3⟩:=cells4v G2.o;clear HAA HB0 HMB HLB HE0;go_wp2_with fail;clear x0 x1 x2 x3;go_loopw [54] (fun i wr=>∃k:Nat,k<=np/\i=zI (k:Int)/\Hid ((zb w wr/\zk wr w.heap.size #[.slice A nq c] 120/\zk wr w1.heap.size #[zI ix,.slice Aq np cq,.slice A1 n1 cc1,.slice A2 n2 cc2] 39)/\V=vrfs ks fs ts us (qs.drop k) (fun i:Nat=>if (i:Int)=ix then(1:Int) else 3) (ps.drop k) k)) (fun i _=>np-(intOf i).toNat);case atStart=>exact⟨0,by omega,rfl,zH ⟨⟨B0.o,G1.o,G2.o⟩,by rw[List.drop_zero,List.drop_zero];exact HVV.o.symm⟩⟩
  clear G1 G2 B0;obtain⟨k,hk,rfl,HI⟩:=hrel;by_cases hlt:k<np
  ·obtain⟨⟨hbw,hq1,hq2⟩,hvs⟩:=HI.o;have hlp:k<ps.length:=(by rw[HNP.o];exact hlt);have hlq:k<qs.length:=(by rw[HNQ.o];omega);rw[vrfs_drop ks fs ts us _ qs ps k hlq hlp] at hvs;obtain⟨b,o,rfl,hb,_,hT⟩:=HPP.o (by intro h;rw[h] at hlp;cases hlp);obtain⟨v0,v1,v2,v3,d0,d1,d2,d3,hpx⟩:=PrfsP.at_ ps o k hlp hT;obtain⟨b',o',v,rfl,hb',hcl,T,a,f,rfl,hme,hcf,hcan⟩:=HE.o k hlq;have hxs:ps[k].size<=1000000:=by
    have h:=HSZ.o;rw[Prf.size] at h;have:=Prf.sizes_mem ps _ (Ze hlp);omega
   have hxo:ps[k].ok 1000000 1000000:=by
    have h:=HOK.o;rw[Prf.ok] at h;exact Prf.oks_iff.1 h.2.2 _ (Ze hlp)
   obtain⟨px,hpxe⟩:∃x,ps[k]=x:=⟨_,rfl⟩;rw[hpxe] at hpx hxs hxo hvs;obtain⟨ix',ps',ch',bk',A',A1',A2',c',c1',c2',hx',rfl,rfl,rfl,rfl⟩:=hpx.open_;have f0:=(hbw.cell (p:=⟨b,o+k*4,none⟩) hb).trans d0;have f1:=(hbw.cell (p:=⟨b,o+k*4+1,none⟩) hb).trans d1;have f2:=(hbw.cell (p:=⟨b,o+k*4+2,none⟩) hb).trans d2;have f3:=(hbw.cell (p:=⟨b,o+k*4+3,none⟩) hb).trans d3;have hi0:=zP k;have hi1:(k:Int)<(np:Int):=(by omega);have hi2:(k:Int)<(nq:Int):=(by omega);obtain⟨wb,hwb⟩:∃wb,wr.alloc (.cells #[zI ix',.slice A' ps'.length c',.slice A1' ch'.length c1',.slice A2' bk'.length c2'] 39)=wb:=⟨_,rfl⟩;have bw:=zG hwb;have qb:=zQ hwb;have B0b:Hid (zb w wb):=zH (hbw.trans (bw.mono hbw.size));have sb:=B0b.o.size;have r1:=zL hq1;have r2:=zL hq2;have sr:wr.heap.size<wb.heap.size:=zL qb;have R1:=zH ((bw.block _ r1).trans hq1);have R2:=zH ((bw.block _ r2).trans hq2);have QB:=zH qb;have HWB:=zH hwb;have g0:=(B0b.o.cell (p:=⟨b',o'+k,none⟩) hb').trans hcl;have CE:Hid (∀want:Int,(want=1\/want=2\/want=3)->Calls Tryz.prog f #[a,.pointer (some ⟨Bx,0,none⟩),zI want,.agg #[zI ix',.slice A' ps'.length c',.slice A1' ch'.length c1',.slice A2' bk'.length c2']] wb.drew fun e w'=>e=.returned (.bool (vrf ks fs ts us qs[k] want px))/\zb wb w'):=zH (fun want hw=>by
    refine(hcan wb.drew q want px _ _ _ _ B0b.o.drew hw hxs hxo (PrfP.keep (fun b _ hlt=>B0b.o.drew.block b hlt) B0b.o.drew.size (fun _ _ h=>h) _ _ _ _ _ hpx)).mono ?_;rintro e w'⟨he,hb⟩;exact⟨he,(zB _ _).drew.trans hb⟩)
   have HVS:=zH hvs;clear hwb bw qb hbw hq1 hq2 hvs hT hpx hcl hcan hxs hxo hx' hpxe d0 d1 d2 d3 hb hb' HI;go_upto_region 8 with fail;rw[HWB.o];clear HWB f0 f1 f2 f3;obtain⟨y0,y1,y2,y3⟩:=cells4v QB.o;obtain⟨x0,x1,x2,x3⟩:=cells4v R2.o;have z0:zc wb w.heap.size 0 (.slice (some ⟨b',o',none⟩) nq c):=zC R1.o 0;by_cases hki:(k:Int)=ix
   ·subst hki;have CW:=zH (CE.o 1 (.inl rfl));have HW2:Hid (V=(vrf ks fs ts us qs[k] 1 px && vrfs ks fs ts us (qs.drop (k+1)) (fun i:Nat=>if (i:Int)=(k:Int) then(1:Int) else 3) (ps.drop (k+1)) (k+1))):=zH (by have h:=HVS.o;rw[if_pos rfl] at h;exact h);clear CE HVS;obtain⟨g,hg⟩:∃g,vrf ks fs ts us qs[k] 1 px=g:=⟨_,rfl⟩;rw[hg] at CW HW2;clear hg;go_upto_region 11 with fail;refine Zs 8 ?_;simp only[Zc,List.take_zero,List.drop_succ_cons,List.drop_zero];change wpStill Tryz.prog _ wb.drew _ _ _;repeat still_step
    try refine wpStill_nil ?_
    change wpList _ _ _ _ _ wb.drew;go_wp2_with fail;refine CW.o.mono ?_;rintro e w5⟨rfl,b5⟩;have H5:Hid (zb w w5/\zk w5 w.heap.size #[.slice (some ⟨b',o',none⟩) nq c] 120/\zk w5 w1.heap.size #[zI (k:Int),.slice (some ⟨b,o,none⟩) np cq,.slice A1 n1 cc1,.slice A2 n2 cc2] 39):=zH ⟨B0b.o.trans (b5.mono sb),(b5.block _ (by omega)).trans R1.o,(b5.block _ (by omega)).trans R2.o⟩;clear b5 x0 x1 x2 x3 y0 y1 y2 y3 z0 g0;cases g with
    |false =>
     have HZ:Hid (ans=false):=zH (by rw[HR.o,HW2.o];rfl);go_wp2_with fail;go_ret;exact⟨by rw[HZ.o];rfl,H5.o.1⟩
    |true =>
     have HN:Hid (V=vrfs ks fs ts us (qs.drop (k+1)) (fun i:Nat=>if (i:Int)=(k:Int) then(1:Int) else 3) (ps.drop (k+1)) (k+1)):=zH (by rw[HW2.o];rfl);go_wp2_with fail;go_roundw;case rel=>exact⟨k+1,by omega,by go_num,zH ⟨H5.o,HN.o⟩⟩
     case measure=>simp[intOf];omega
   have n1':((k:Int) == ix)=false:=(by simpa using hki);have n2':decide ((k:Int)=ix)=false:=(by simpa using hki);have CW:=zH (CE.o 3 (.inr (.inr rfl)));have HW2:Hid (V=(vrf ks fs ts us qs[k] 3 px && vrfs ks fs ts us (qs.drop (k+1)) (fun i:Nat=>if (i:Int)=ix then(1:Int) else 3) (ps.drop (k+1)) (k+1))):=zH (by have h:=HVS.o;rw[if_neg hki] at h;exact h);clear CE HVS;obtain⟨g,hg⟩:∃g,vrf ks fs ts us qs[k] 3 px=g:=⟨_,rfl⟩;rw[hg] at CW HW2;clear hg;go_upto_region 11 with fail;refine Zs 8 ?_;simp only[Zc,List.take_zero,List.drop_succ_cons,List.drop_zero];change wpStill Tryz.prog _ wb.drew _ _ _;repeat still_step
   try refine wpStill_nil ?_
   change wpList _ _ _ _ _ wb.drew;go_wp2_with fail;refine CW.o.mono ?_;rintro e w5⟨rfl,b5⟩;have H5:Hid (zb w w5/\zk w5 w.heap.size #[.slice (some ⟨b',o',none⟩) nq c] 120/\zk w5 w1.heap.size #[zI ix,.slice (some ⟨b,o,none⟩) np cq,.slice A1 n1 cc1,.slice A2 n2 cc2] 39):=zH ⟨B0b.o.trans (b5.mono sb),(b5.block _ (by omega)).trans R1.o,(b5.block _ (by omega)).trans R2.o⟩;clear b5 x0 x1 x2 x3 y0 y1 y2 y3 z0 g0;cases g with
   |false =>
    have HZ:Hid (ans=false):=zH (by rw[HR.o,HW2.o];rfl);go_wp2_with fail;go_ret;exact⟨by rw[HZ.o];rfl,H5.o.1⟩
   |true =>
    have HN:Hid (V=vrfs ks fs ts us (qs.drop (k+1)) (fun i:Nat=>if (i:Int)=ix then(1:Int) else 3) (ps.drop (k+1)) (k+1)):=zH (by rw[HW2.o];rfl);go_wp2_with fail;go_roundw;case rel=>exact⟨k+1,by omega,by go_num,zH ⟨H5.o,HN.o⟩⟩
    case measure=>simp[intOf];omega
  have hkn:k=np:=by omega
  obtain⟨⟨hbw,hq1,hq2⟩,hvs⟩:=HI.o;rw[vrfs_end ks fs ts us _ qs ps k (by rw[HNP.o];omega)] at hvs;have HZ:Hid (ans=true):=zH (by rw[HR.o,hvs]);have HBW:=zH hbw;have hi0:¬((k:Int)<(np:Int)):=by omega
  clear hbw hq1 hq2 hvs HI hkn;go_wp2_with fail;go_ret;exact⟨by rw[HZ.o];rfl,HBW.o⟩
theorem oSimV_any(q:Nat->Prop)(Bx:Nat)(fs:List Fact)(ks:List Int)(ts us:List Raw)(qs:List Ods)(rel ix:Int)(ps:List Prf)(ch bk:List Link)(A Aq A1 A2:Option Addr)(c cq cc1 cc2:Nat)(w:World)
  (hE:CansV Bx ks fs ts us w A qs) (hn:qs.length<=1000000) (hrel:rel=1\/rel=2\/rel=3) (hsz:(Prf.node ix ps ch bk).size<=1000000) (hok:(Prf.node ix ps ch bk).ok 1000000 1000000)
  (hpp:ps≠[]->∃b o,Aq=some ⟨b,o,none⟩/\b<w.heap.size/\q b/\PrfsP q w b ps o) :
  Calls Tryz.prog 156 #[.agg #[.slice A qs.length c],.pointer (some ⟨Bx,0,none⟩),zI rel,.agg #[zI ix,.slice Aq ps.length cq,.slice A1 ch.length cc1,.slice A2 bk.length cc2]] w fun e w'=>e=.returned (.bool (vrf ks fs ts us (.sim qs) rel (.node ix ps ch bk)))/\zb w w':=by
 have HA:=vrf_sim ks fs ts us qs rel ix ps ch bk;obtain⟨ans,hans⟩:∃a,vrf ks fs ts us (.sim qs) rel (.node ix ps ch bk)=a:=⟨_,rfl⟩;obtain⟨V,hV⟩:∃V,vrfs ks fs ts us qs (fun i:Nat=>if rel=3 then(3:Int) else if (i:Int)=ix then 1 else 2) ps 0=V:=⟨_,rfl⟩;rw[hans,hV] at HA;rw[hans];have HVV:=zH hV;have HOK:=zH hok;have hps:ps.length<=1000000:=by
  have:=Prf.sizes_len ps;rw[Prf.size] at hsz;omega
 have HSZ:=zH hsz;obtain⟨np,hnp⟩:∃n,ps.length=n:=⟨_,rfl⟩;obtain⟨nq,hnq⟩:∃n,qs.length=n:=⟨_,rfl⟩;obtain⟨n1,hn1⟩:∃n,ch.length=n:=⟨_,rfl⟩;obtain⟨n2,hn2⟩:∃n,bk.length=n:=⟨_,rfl⟩;rw[hnp,hnq,hn1,hn2] at HA;rw[hnp,hnq,hn1,hn2];rw[hnp] at hps;rw[hnq] at hn;have HNP:=zH hnp;have HNQ:=zH hnq;have HE:=zH hE;have HPP:=zH hpp;obtain⟨E0,hE0⟩:∃E,bareB n1 n2 ix nq=E:=⟨_,rfl⟩;rw[hE0] at HA;have HE0:=zH hE0;clear hans hV hok hsz hnp hnq hn1 hn2 hE hpp hE0;obtain⟨w1,hw1⟩:∃w1,w.alloc (.cells #[.slice A nq c] 121)=w1:=⟨_,rfl⟩;obtain⟨w2,hw2⟩:∃w2,w1.alloc (.cells #[zI ix,.slice Aq np cq,.slice A1 n1 cc1,.slice A2 n2 cc2] 39)=w2:=⟨_,rfl⟩;have b1:=zG hw1;have b2:=zG hw2;have q1:=zQ hw1;have q2:=zQ hw2;have l1:=zL q1;have l2:=zL q2;have B02:Hid (zb w w2):=zH (b1.trans (b2.mono (by omega)));have s02:=B02.o.size;have Q1:=zH ((b2.block _ l1).trans q1);have Q2:=zH q2;have y0:zc w2 w.heap.size 0 (.slice A nq c):=zC Q1.o 0;obtain⟨x0,x1,x2,x3⟩:=cells4v q2;have BARE:=zH (oBare_any ix n1 n2 np nq Aq A1 A2 cq cc1 cc2 w2);rw[HE0.o] at BARE;obtain⟨lb,hlb⟩:∃b,decide (ix<(nq:Int))=b:=⟨_,rfl⟩;obtain⟨mb,hmb⟩:∃b,decide (np=nq)=b:=⟨_,rfl⟩;rw[hlb,hmb] at HA;obtain⟨BAD,hBAD⟩:∃B,((!E0 || !(lb == decide (rel=1))) || !mb)=B:=⟨_,rfl⟩;rw[hBAD] at HA;have HAA:=zH HA;have HB0:Hid (((!E0 || !(lb == decide (rel=1))) || !mb)=BAD):=zH hBAD;have HLB:=zH hlb;have HMB:=zH hmb;clear HA hBAD hmb b1 b2 q1 q2;go_enter Tryz.func156,Tryz.ntmps156;go_upto_region 3 with fail;clear hw1 hw2;go_cut [37] (fun s wx=>s=.bool BAD/\Hid (zb w2 wx));case first =>
  cases E0 with
  |false =>
   go_wp2_with fail;refine BARE.o.mono ?_;rintro e w5⟨rfl,b5⟩;have B5:=zH b5;clear b5;go_wp2_with fail;go_meet;exact⟨by rw[<-HB0.o];rfl,B5⟩
  |true =>
   have m1:((np:Int) == (nq:Int))=mb:=(by rw[<-HMB.o,Bool.eq_iff_iff];simp;omega);have m2:((np:Int) != (nq:Int))=(!mb):=(by rw[bne,m1]);have m3:decide (np=nq)=mb:=HMB.o;rcases hrel with rfl | rfl | rfl <;> cases lb <;> cases mb <;> (go_wp2_with fail;refine BARE.o.mono ?_;rintro e w5⟨rfl,b5⟩;have B5:=zH b5;have e5:=(b5.block _ l2).trans Q2.o;clear x0 x1 x2 x3 y0;obtain⟨x0,x1,x2,x3⟩:=cells4v e5;clear b5 e5;go_wp2_with fail;go_meet;exact⟨by rw[<-HB0.o];rfl,B5⟩)
 obtain⟨rfl,HC⟩:=hcut;have B0:Hid (zb w wc):=zH (B02.o.trans (HC.o.mono s02));have G1:Hid (zk wc w.heap.size #[.slice A nq c] 121):=zH ((HC.o.block _ (by omega)).trans Q1.o);have G2:Hid (zk wc w1.heap.size #[zI ix,.slice Aq np cq,.slice A1 n1 cc1,.slice A2 n2 cc2] 39):=zH ((HC.o.block _ l2).trans Q2.o);clear y0 x0 x1 x2 x3 hlb BARE;cases BAD with
 |true =>
  have HR:Hid (ans=false):=zH (by rw[HAA.o];rfl);go_wp2_with fail;go_ret;exact⟨by rw[HR.o];rfl,B0.o⟩
 |false =>
  have HR:Hid (ans=V):=zH (by rw[HAA.o];rfl);have hpq:np<=nq:=by
   have h:=HB0.o;have hm:mb=true:=by
    cases mb with
    |true=>rfl
    |false=>simp at h
   have h2:=HMB.o;rw[hm,Zd] at h2;omega
  obtain⟨x0,x1,x2,x3⟩:=cells4v G2.o;clear HAA HB0 HMB HLB HE0;go_wp2_with fail;clear x0 x1 x2 x3;go_loopw [41] (fun i wr=>∃k:Nat,k<=np/\i=zI (k:Int)/\Hid ((zb w wr/\zk wr w.heap.size #[.slice A nq c] 121/\zk wr w1.heap.size #[zI ix,.slice Aq np cq,.slice A1 n1 cc1,.slice A2 n2 cc2] 39)/\V=vrfs ks fs ts us (qs.drop k) (fun i:Nat=>if rel=3 then(3:Int) else if (i:Int)=ix then 1 else 2) (ps.drop k) k)) (fun i _=>np-(intOf i).toNat);case atStart=>exact⟨0,by omega,rfl,zH ⟨⟨B0.o,G1.o,G2.o⟩,by rw[List.drop_zero,List.drop_zero];exact HVV.o.symm⟩⟩
  clear G1 G2 B0;obtain⟨k,hk,rfl,HI⟩:=hrel;by_cases hlt:k<np
  ·obtain⟨⟨hbw,hq1,hq2⟩,hvs⟩:=HI.o;have hlp:k<ps.length:=(by rw[HNP.o];exact hlt);have hlq:k<qs.length:=(by rw[HNQ.o];omega);rw[vrfs_drop ks fs ts us _ qs ps k hlq hlp] at hvs;obtain⟨b,o,rfl,hb,_,hT⟩:=HPP.o (by intro h;rw[h] at hlp;cases hlp);obtain⟨v0,v1,v2,v3,d0,d1,d2,d3,hpx⟩:=PrfsP.at_ ps o k hlp hT;obtain⟨b',o',v,rfl,hb',hcl,T,a,f,rfl,hme,hcf,hcan⟩:=HE.o k hlq;have hxs:ps[k].size<=1000000:=by
    have h:=HSZ.o;rw[Prf.size] at h;have:=Prf.sizes_mem ps _ (Ze hlp);omega
   have hxo:ps[k].ok 1000000 1000000:=by
    have h:=HOK.o;rw[Prf.ok] at h;exact Prf.oks_iff.1 h.2.2 _ (Ze hlp)
   obtain⟨px,hpxe⟩:∃x,ps[k]=x:=⟨_,rfl⟩;rw[hpxe] at hpx hxs hxo hvs;obtain⟨ix',ps',ch',bk',A',A1',A2',c',c1',c2',hx',rfl,rfl,rfl,rfl⟩:=hpx.open_;have f0:=(hbw.cell (p:=⟨b,o+k*4,none⟩) hb).trans d0;have f1:=(hbw.cell (p:=⟨b,o+k*4+1,none⟩) hb).trans d1;have f2:=(hbw.cell (p:=⟨b,o+k*4+2,none⟩) hb).trans d2;have f3:=(hbw.cell (p:=⟨b,o+k*4+3,none⟩) hb).trans d3;have hi0:=zP k;have hi1:(k:Int)<(np:Int):=(by omega);have hi2:(k:Int)<(nq:Int):=(by omega);obtain⟨wb,hwb⟩:∃wb,wr.alloc (.cells #[zI ix',.slice A' ps'.length c',.slice A1' ch'.length c1',.slice A2' bk'.length c2'] 39)=wb:=⟨_,rfl⟩;have bw:=zG hwb;have qb:=zQ hwb;have B0b:Hid (zb w wb):=zH (hbw.trans (bw.mono hbw.size));have sb:=B0b.o.size;have r1:=zL hq1;have r2:=zL hq2;have sr:wr.heap.size<wb.heap.size:=zL qb;have R1:=zH ((bw.block _ r1).trans hq1);have R2:=zH ((bw.block _ r2).trans hq2);have QB:=zH qb;have HWB:=zH hwb;have g0:=(B0b.o.cell (p:=⟨b',o'+k,none⟩) hb').trans hcl;have CE:Hid (∀want:Int,(want=1\/want=2\/want=3)->Calls Tryz.prog f #[a,.pointer (some ⟨Bx,0,none⟩),zI want,.agg #[zI ix',.slice A' ps'.length c',.slice A1' ch'.length c1',.slice A2' bk'.length c2']] wb.drew fun e w'=>e=.returned (.bool (vrf ks fs ts us qs[k] want px))/\zb wb w'):=zH (fun want hw=>by
    refine(hcan wb.drew q want px _ _ _ _ B0b.o.drew hw hxs hxo (PrfP.keep (fun b _ hlt=>B0b.o.drew.block b hlt) B0b.o.drew.size (fun _ _ h=>h) _ _ _ _ _ hpx)).mono ?_;rintro e w'⟨he,hb⟩;exact⟨he,(zB _ _).drew.trans hb⟩)
   have HVS:=zH hvs;clear hwb bw qb hbw hq1 hq2 hvs hT hpx hcl hcan hxs hxo hx' hpxe d0 d1 d2 d3 hb hb' HI;go_upto_region 8 with fail;rw[HWB.o];clear HWB f0 f1 f2 f3;obtain⟨y0,y1,y2,y3⟩:=cells4v QB.o;obtain⟨x0,x1,x2,x3⟩:=cells4v R2.o;have z0:zc wb w.heap.size 0 (.slice (some ⟨b',o',none⟩) nq c):=zC R1.o 0;by_cases hr3:rel=3
   ·subst hr3;have CW:=zH (CE.o 3 (.inr (.inr rfl)));have HW2:Hid (V=(vrf ks fs ts us qs[k] 3 px && vrfs ks fs ts us (qs.drop (k+1)) (fun i:Nat=>if (3:Int)=3 then(3:Int) else if (i:Int)=ix then 1 else 2) (ps.drop (k+1)) (k+1))):=zH (by have h:=HVS.o;rw[if_pos rfl] at h;exact h);clear CE HVS;obtain⟨g,hg⟩:∃g,vrf ks fs ts us qs[k] 3 px=g:=⟨_,rfl⟩;rw[hg] at CW HW2;clear hg;go_upto_region 13 with fail;refine Zs 8 ?_;simp only[Zc,List.take_zero,List.drop_succ_cons,List.drop_zero];change wpStill Tryz.prog _ wb.drew _ _ _;repeat still_step
    try refine wpStill_nil ?_
    change wpList _ _ _ _ _ wb.drew;go_wp2_with fail;refine CW.o.mono ?_;rintro e w5⟨rfl,b5⟩;have H5:Hid (zb w w5/\zk w5 w.heap.size #[.slice (some ⟨b',o',none⟩) nq c] 121/\zk w5 w1.heap.size #[zI ix,.slice (some ⟨b,o,none⟩) np cq,.slice A1 n1 cc1,.slice A2 n2 cc2] 39):=zH ⟨B0b.o.trans (b5.mono sb),(b5.block _ (by omega)).trans R1.o,(b5.block _ (by omega)).trans R2.o⟩;clear b5 x0 x1 x2 x3 y0 y1 y2 y3 z0 g0;cases g with
    |false =>
     have HZ:Hid (ans=false):=zH (by rw[HR.o,HW2.o];rfl);go_wp2_with fail;go_ret;exact⟨by rw[HZ.o];rfl,H5.o.1⟩
    |true =>
     have HN:Hid (V=vrfs ks fs ts us (qs.drop (k+1)) (fun i:Nat=>if (3:Int)=3 then(3:Int) else if (i:Int)=ix then 1 else 2) (ps.drop (k+1)) (k+1)):=zH (by rw[HW2.o];rfl);go_wp2_with fail;go_roundw;case rel=>exact⟨k+1,by omega,by go_num,zH ⟨H5.o,HN.o⟩⟩
     case measure=>simp[intOf];omega
   have n3:(rel == 3)=false:=(by simpa using hr3);have n4:decide (rel=3)=false:=(by simpa using hr3);by_cases hki:(k:Int)=ix
   ·subst hki;have CW:=zH (CE.o 1 (.inl rfl));have HW2:Hid (V=(vrf ks fs ts us qs[k] 1 px && vrfs ks fs ts us (qs.drop (k+1)) (fun i:Nat=>if rel=3 then(3:Int) else if (i:Int)=(k:Int) then 1 else 2) (ps.drop (k+1)) (k+1))):=zH (by have h:=HVS.o;rw[if_neg hr3,if_pos rfl] at h;exact h);clear CE HVS;obtain⟨g,hg⟩:∃g,vrf ks fs ts us qs[k] 1 px=g:=⟨_,rfl⟩;rw[hg] at CW HW2;clear hg;go_upto_region 13 with fail;refine Zs 8 ?_;simp only[Zc,List.take_zero,List.drop_succ_cons,List.drop_zero];change wpStill Tryz.prog _ wb.drew _ _ _;repeat still_step
    try refine wpStill_nil ?_
    change wpList _ _ _ _ _ wb.drew;go_wp2_with fail;refine CW.o.mono ?_;rintro e w5⟨rfl,b5⟩;have H5:Hid (zb w w5/\zk w5 w.heap.size #[.slice (some ⟨b',o',none⟩) nq c] 121/\zk w5 w1.heap.size #[zI (k:Int),.slice (some ⟨b,o,none⟩) np cq,.slice A1 n1 cc1,.slice A2 n2 cc2] 39):=zH ⟨B0b.o.trans (b5.mono sb),(b5.block _ (by omega)).trans R1.o,(b5.block _ (by omega)).trans R2.o⟩;clear b5 x0 x1 x2 x3 y0 y1 y2 y3 z0 g0;cases g with
    |false =>
     have HZ:Hid (ans=false):=zH (by rw[HR.o,HW2.o];rfl);go_wp2_with fail;go_ret;exact⟨by rw[HZ.o];rfl,H5.o.1⟩
    |true =>
     have HN:Hid (V=vrfs ks fs ts us (qs.drop (k+1)) (fun i:Nat=>if rel=3 then(3:Int) else if (i:Int)=(k:Int) then 1 else 2) (ps.drop (k+1)) (k+1)):=zH (by rw[HW2.o];rfl);go_wp2_with fail;go_roundw;case rel=>exact⟨k+1,by omega,by go_num,zH ⟨H5.o,HN.o⟩⟩
     case measure=>simp[intOf];omega
   have n1':((k:Int) == ix)=false:=(by simpa using hki);have n2':decide ((k:Int)=ix)=false:=(by simpa using hki);have CW:=zH (CE.o 2 (.inr (.inl rfl)));have HW2:Hid (V=(vrf ks fs ts us qs[k] 2 px && vrfs ks fs ts us (qs.drop (k+1)) (fun i:Nat=>if rel=3 then(3:Int) else if (i:Int)=ix then 1 else 2) (ps.drop (k+1)) (k+1))):=zH (by have h:=HVS.o;rw[if_neg hr3,if_neg hki] at h;exact h);clear CE HVS;obtain⟨g,hg⟩:∃g,vrf ks fs ts us qs[k] 2 px=g:=⟨_,rfl⟩;rw[hg] at CW HW2;clear hg;go_upto_region 13 with fail;refine Zs 8 ?_;simp only[Zc,List.take_zero,List.drop_succ_cons,List.drop_zero];change wpStill Tryz.prog _ wb.drew _ _ _;repeat still_step
   try refine wpStill_nil ?_
   change wpList _ _ _ _ _ wb.drew;go_wp2_with fail;refine CW.o.mono ?_;rintro e w5⟨rfl,b5⟩;have H5:Hid (zb w w5/\zk w5 w.heap.size #[.slice (some ⟨b',o',none⟩) nq c] 121/\zk w5 w1.heap.size #[zI ix,.slice (some ⟨b,o,none⟩) np cq,.slice A1 n1 cc1,.slice A2 n2 cc2] 39):=zH ⟨B0b.o.trans (b5.mono sb),(b5.block _ (by omega)).trans R1.o,(b5.block _ (by omega)).trans R2.o⟩;clear b5 x0 x1 x2 x3 y0 y1 y2 y3 z0 g0;cases g with
   |false =>
    have HZ:Hid (ans=false):=zH (by rw[HR.o,HW2.o];rfl);go_wp2_with fail;go_ret;exact⟨by rw[HZ.o];rfl,H5.o.1⟩
   |true =>
    have HN:Hid (V=vrfs ks fs ts us (qs.drop (k+1)) (fun i:Nat=>if rel=3 then(3:Int) else if (i:Int)=ix then 1 else 2) (ps.drop (k+1)) (k+1)):=zH (by rw[HW2.o];rfl);go_wp2_with fail;go_roundw;case rel=>exact⟨k+1,by omega,by go_num,zH ⟨H5.o,HN.o⟩⟩
    case measure=>simp[intOf];omega
  have hkn:k=np:=by omega
  obtain⟨⟨hbw,hq1,hq2⟩,hvs⟩:=HI.o;rw[vrfs_end ks fs ts us _ qs ps k (by rw[HNP.o];omega)] at hvs;have HZ:Hid (ans=true):=zH (by rw[HR.o,hvs]);have HBW:=zH hbw;have hi0:¬((k:Int)<(np:Int)):=by omega
  clear hbw hq1 hq2 hvs HI hkn;go_wp2_with fail;go_ret;exact⟨by rw[HZ.o];rfl,HBW.o⟩
theorem odsCanV(Bx:Nat)(F A0 L R:Option Addr)(f0 c0 cl cr:Nat)(fs:List Fact)(ks:List Int)(ts us:List Raw)(hks:ks.length≤1000000)(hfn:fs.length≤1000000)(hfs:∀f∈fs,f.l.size≤1000000∧f.r.size≤1000000)(hts:∀t∈ts,t.size≤1000000)(hus:∀t∈us,t.size≤1000000)(hnt:ts.length≤1000000)(hnu:us.length≤1000000)(m:Nat)(hm:m≤1000) :
  ∀(p:Ods)(v:Value)(w:World),p.size≤m→p.rng ts.length us.length→PvV w Bx F A0 L R f0 c0 cl cr fs ks ts us→OdsP (fun _=>True) w p v→CanV Bx ks fs ts us w p v:=by
 induction m with
 |zero=>intro p v w h;have:=p.size_pos;omega
 |succ m ih0 =>
  have ih:=ih0 (by omega);intro p v w hsz hrg hP hv;have parts:∀(ps:List Ods)(A:Option Addr),Ods.sizes ps≤m→Ods.rngs ts.length us.length ps→(ps≠[]→∃b o,A=some ⟨b,o,none⟩∧b<w.heap.size∧True∧OdssP (fun _=>True) w b ps o)→CansV Bx ks fs ts us w A ps:=fun ps A h1 h2 h3 i hi=>by
   obtain⟨b,o,v,hA,hb,hM,hc,hp⟩:=OdsSl.at_ h3 hi;exact⟨b,o,v,hA,hb,hc,ih _ v w (zR (Ods.sizes_mem ps _ (Ze _)) h1) (Ods.rngs_mem ps _ h2 (Ze _)) hP hp⟩
  cases p with
  |arg i j =>
   rw[OdsP] at hv;rw[Ods.rng] at hrg;obtain⟨hi,hj⟩:=hrg;subst hv;refine⟨_,_,159,rfl,fun _ _=>by rfl,callFunc_enter Tryz.func159 (by kernel_rfl) rfl,fun w1 q rel x v0 v1 v2 v3 ho hrel hxs hxo hx=>?_⟩;obtain⟨ix,ps,ch,bk,A,A1,A2,c,c1,c2,rfl,rfl,rfl,rfl,rfl⟩:=hx.open_;obtain⟨_,_,hl1,hl2⟩:=hx.parts;rw[Prf.ok] at hxo;have hpl:ps.length≤1000000:=by
    have:=Prf.sizes_len ps;rw[Prf.size] at hxs;omega
   exact oArgV_any q Bx i j F A0 L R f0 c0 cl cr fs ks ts us rel ix ps ch bk A A1 A2 c c1 c2 w1 hfn hks hfs hxo.1.1 hxo.1.2 hxo.2.1.1 hxo.2.1.2 hpl (hP.below ho) hi hj (hts _ (Ze _)) (hus _ (Ze _)) (by omega) (by omega) hrel hl1 hl2
  |lex ps =>
   rw[OdsP] at hv;rw[Ods.rng] at hrg;rw[Ods.size] at hsz;obtain⟨A,c,rfl,hc,h3⟩:=hv;have hE:=parts ps A (by omega) hrg h3;have hn:ps.length≤1000:=(by have:=Ods.sizes_len ps;omega);refine⟨_,_,152,rfl,fun _ _=>by rfl,callFunc_enter Tryz.func152 (by kernel_rfl) rfl,fun w1 q rel x v0 v1 v2 v3 ho hrel hxs hxo hx=>?_⟩;obtain⟨ix,xs,ch,bk,A9,A1,A2,c9,c1,c2,rfl,rfl,rfl,rfl,rfl⟩:=hx.open_;obtain⟨_,hpp,_,_⟩:=hx.parts;exact oLexV_any q Bx fs ks ts us ps rel ix xs ch bk A A9 A1 A2 c c9 c1 c2 w1 (hE.below ho) (by omega) hrel hxs hxo hpp
  |sim ps =>
   rw[OdsP] at hv;rw[Ods.rng] at hrg;rw[Ods.size] at hsz;obtain⟨A,c,rfl,hc,h3⟩:=hv;have hE:=parts ps A (by omega) hrg h3;have hn:ps.length≤1000:=(by have:=Ods.sizes_len ps;omega);refine⟨_,_,156,rfl,fun _ _=>by rfl,callFunc_enter Tryz.func156 (by kernel_rfl) rfl,fun w1 q rel x v0 v1 v2 v3 ho hrel hxs hxo hx=>?_⟩;obtain⟨ix,xs,ch,bk,A9,A1,A2,c9,c1,c2,rfl,rfl,rfl,rfl,rfl⟩:=hx.open_;obtain⟨_,hpp,_,_⟩:=hx.parts;exact oSimV_any q Bx fs ks ts us ps rel ix xs ch bk A A9 A1 A2 c c9 c1 c2 w1 (hE.below ho) (by omega) hrel hxs hxo hpp
end
section
open Go.RowKit Go.Maps _root_.Lfc
attribute [local go_sem ↓] Go.wp_at_zero Go.wp_at_succ
theorem QuO.proverV{w w1:World}{fs:List Fact}{F:Option Addr}{o p:Lfc.Ord}{vo vp:Value}{ts us:List Raw}{L R:Option Addr}{cl cr f0 c0:Nat}{ks:List Int}{A0:Option Addr}{Bx:Nat}(h:QuO w fs F o p vo vp ts us L R cl cr ks A0)(hb:Below w.heap.size w w1){z:Value}
  (hq:w1.heap[Bx]?=some (.cells #[.slice F fs.length f0,.slice A0 ks.length c0,.slice L ts.length cl,.slice R us.length cr,z] 85 (0,0))):PvV w1 Bx F A0 L R f0 c0 cl cr fs ks ts us :=
 ⟨zL hq,zC hq 0,zC hq 1,zC hq 2,zC hq 3,
  h.fs.keep (fun b _ hlt=>hb.block b hlt) hb.size (fun b hlt _=>trivial),h.ks.keep (fun b _ hlt=>hb.block b hlt) hb.size (fun b hlt _=>trivial),
  h.ts.toP.keep (fun b _ hlt=>hb.block b hlt) hb.size (fun b hlt _=>trivial),h.us.toP.keep (fun b _ hlt=>hb.block b hlt) hb.size (fun b hlt _=>trivial)⟩
theorem oVerifyF_any(fs:List Fact)(F:Option Addr)(o p:Lfc.Ord)(vo vp:Value)(ts us:List Raw)(L R:Option Addr)(f0 cl cr c0:Nat)(ks:List Int)(A0:Option Addr)(rel:Int)(w:World)(hQ:QuO w fs F o p vo vp ts us L R cl cr ks A0)(hrel:rel=1\/rel=2\/rel=3)
  (q:Nat->Prop) (x:Prf) (v0 v1 v2 v3:Value) (hx:PrfP q w x v0 v1 v2 v3) (hxs:x.size<=1000000) (hxo:x.ok 1000000 1000000) :
  Calls Tryz.prog 14 #[.slice F fs.length f0,zI rel,vo,.slice L ts.length cl,vp,.slice R us.length cr,.slice A0 ks.length c0,.agg #[v0,v1,v2,v3]] w fun e w'=>e=.returned (.bool (decide (chkF fs o p ts us=0) && vrf ks fs ts us (odsOf o p) rel x))/\zb w w':=by
 obtain⟨ix,B1,B2,Aq,n1,n2,np,d1,d2,cq,rfl,rfl,rfl,rfl⟩:∃ix B1 B2 Aq n1 n2 np d1 d2 cq,v0=zI ix/\v1=.slice Aq np cq/\v2=.slice B1 n1 d1/\v3=.slice B2 n2 d2:=by
  obtain⟨ix,ps,ch,bk,A,A1,A2,c,c1,c2,rfl,rfl,rfl,rfl,rfl⟩:=hx.open_;exact⟨ix,A1,A2,A,_,_,_,c1,c2,c,rfl,rfl,rfl,rfl⟩
 have HX:=zH hx;clear hx;obtain⟨VR,hVR⟩:∃V,vrf ks fs ts us (odsOf o p) rel x=V:=⟨_,rfl⟩;rw[hVR];have HVR:=zH hVR;clear hVR;have hvo:=hQ.vo;have hvp:=hQ.vp;obtain⟨A1,c1,k1,a1,l1,rfl⟩:∃A c kd ar n,vo=.agg #[zI kd,zI ar,.slice A n c]:=by
  obtain⟨kd,ar,ts⟩:=o;obtain⟨A,c,rfl,hc,hA⟩:=hvo.open_;exact⟨A,c,kd,ar,_,rfl⟩
 obtain⟨A2,c2,k2,a2,l2,rfl⟩:∃A c kd ar n,vp=.agg #[zI kd,zI ar,.slice A n c]:=by
  obtain⟨kd,ar,ts⟩:=p;obtain⟨A,c,rfl,hc,hA⟩:=hvp.open_;exact⟨A,c,kd,ar,_,rfl⟩
 obtain⟨w1,hw1⟩:∃w1,w.alloc (.cells #[zI k1,zI a1,.slice A1 l1 c1] 26)=w1:=⟨_,rfl⟩;obtain⟨w2,hw2⟩:∃w2,w1.alloc (.cells #[zI k2,zI a2,.slice A2 l2 c2] 26)=w2:=⟨_,rfl⟩;obtain⟨w3,hw3⟩:∃w3,w2.alloc (.cells #[zI ix,.slice Aq np cq,.slice B1 n1 d1,.slice B2 n2 d2] 39)=w3:=⟨_,rfl⟩;have b1:=zG hw1;have b2:=zG hw2;have b3:=zG hw3;have q1:=zQ hw1;have q2:=zQ hw2;have q3:=zQ hw3;have e1:=zL q1;have e2:=zL q2;have e3:=zL q3;have b03:zb w w3:=(b1.trans (b2.mono (by omega))).trans (b3.mono (by omega));have Q1:=zH ((b3.block _ (by omega)).trans ((b2.block _ e1).trans q1));have Q2:=zH ((b3.block _ e2).trans q2);have Q3:=zH q3;have B03:=zH b03;have s03:w.heap.size<=w3.heap.size:=by omega
 obtain⟨y0,y1,y2⟩:=cells3o Q1.o;obtain⟨z0,z1,z2⟩:=cells3o Q2.o;have hQ3:=hQ.below b03;have CK:=zH (oCheckF_any (fun _=>True) fs F f0 rel o p _ _ ts us L R cl cr w3 hQ.fl hQ3.fs hQ.rl (fun f hf=>by have:=hQ.fz f hf;omega) hrel (by have:=hQ.os;omega) (by have:=hQ.ps;omega) hQ3.vo hQ3.vp hQ.n hQ.m (fun t ht=>by have:=hQ.st t ht;omega) hQ.l hQ.r hQ3.ts hQ3.us);have HQ:=zH hQ;have HQ3:=zH hQ3;have HREL:=zH hrel;obtain⟨z,hz⟩:∃z,chkF fs o p ts us=z:=⟨_,rfl⟩;have HZC:=zH hz;rw[hz] at CK ⊢;obtain⟨n,hnn⟩:∃n,ts.length=n:=⟨_,rfl⟩;obtain⟨m,hmm⟩:∃m,us.length=m:=⟨_,rfl⟩;obtain⟨nf,hnf⟩:∃nf,fs.length=nf:=⟨_,rfl⟩;obtain⟨nk,hnk⟩:∃nk,ks.length=nk:=⟨_,rfl⟩;have HNM:=zJ hnn (And.intro hmm (And.intro hnf hnk));rw[hnn,hnf] at CK ⊢;rw[hmm] at CK ⊢;rw[hnk];have HXS:=zH hxs;have HXO:=zH hxo;clear hz hnn hmm hnf hnk hQ hQ3 hvo hvp hrel b1 b2 b3 q1 q2 q3 b03 hxs hxo;by_cases hz0:z=0
 ·have HC0:=zH (chkF_zero (HZC.o.trans hz0));subst hz0;go_enter Tryz.func14,Tryz.ntmps14;go_wp2_with fail;refine CK.o.mono ?_;rintro e w4⟨rfl,b4⟩;clear hw1 hw2 hw3 CK;obtain⟨w6,hw6⟩:∃w6,w4.alloc (.cells #[.slice F nf f0,.slice A0 nk c0,.slice L n cl,.slice R m cr,.map none] 85)=w6:=⟨_,rfl⟩;have b6:=zG hw6;have q6:=zQ hw6;have l6:=zL q6;have B36:Hid (zb w3 w6):=zH (b4.trans (b6.mono b4.size));have s36:=B36.o.size;have hP6:Hid (PvV w6 w4.heap.size F A0 L R f0 c0 cl cr fs ks ts us):=zH (HQ3.o.proverV B36.o (z:=.map none) (by rw[HNM.o.1,HNM.o.2.1,HNM.o.2.2.1,HNM.o.2.2.2];exact q6));have SC:Hid (∀W,zb w6 W->(zc W w.heap.size 0 (zI k1)/\zc W w.heap.size 1 (zI a1)/\zc W w.heap.size 2 (.slice A1 l1 c1))/\(zc W w1.heap.size 0 (zI k2)/\zc W w1.heap.size 1 (zI a2)/\zc W w1.heap.size 2 (.slice A2 l2 c2))/\(zc W w2.heap.size 0 (zI ix)/\zc W w2.heap.size 1 (.slice Aq np cq)/\zc W w2.heap.size 2 (.slice B1 n1 d1)/\zc W w2.heap.size 3 (.slice B2 n2 d2))):=zH (fun W hW=>by
   have h:=B36.o.trans (hW.mono s36);exact⟨cells3o ((h.block _ (by omega)).trans Q1.o),cells3o ((h.block _ (by omega)).trans Q2.o),cells4v ((h.block _ e3).trans Q3.o)⟩)
  obtain⟨v1,v2,v3⟩:=vld_zero HC0.o.2.2.1;obtain⟨v4,v5,v6⟩:=vld_zero HC0.o.2.2.2.1;have CB:=zH (fun W (hW:zb w6 W)=>oBoth_upto 1000 (by omega) _ _ o p _ _ W HQ.o.os HC0.o.2.2.2.2 v2 v5 v3 v6 ((HQ3.o.below B36.o).below hW).vo ((HQ3.o.below B36.o).below hW).vp);have HRG:Hid ((odsOf o p).rng ts.length us.length/\(odsOf o p).size<=1000):=zH ⟨odsOf_rng _ _ o p HC0.o.2.2.2.2 v2 v5 v3 v6,by have:=odsOf_size o p;omega⟩;have HW6:=zH hw6;clear y0 y1 y2 z0 z1 z2 b4 b6 q6 v1 v2 v3 v4 v5 v6 hw6;go_upto_region 4 with fail;rw[HW6.o];clear HW6;have G0:zb w6 w6.drew:=(zB _ _).drew;refine wp_region_held_drew (S:=fun W=>(zc W w.heap.size 0 (zI k1)/\zc W w.heap.size 1 (zI a1)/\zc W w.heap.size 2 (.slice A1 l1 c1))/\(zc W w1.heap.size 0 (zI k2)/\zc W w1.heap.size 1 (zI a2)/\zc W w1.heap.size 2 (.slice A2 l2 c2))/\(zc W w2.heap.size 0 (zI ix)/\zc W w2.heap.size 1 (.slice Aq np cq)/\zc W w2.heap.size 2 (.slice B1 n1 d1)/\zc W w2.heap.size 3 (.slice B2 n2 d2))) (by kernel_rfl) ?_ (fun hH=>?_)
  ·exact SC.o _ G0
  refine tk 0 ?_;refine tk 1 ?_;refine tk 3 ?_;refine tk 4 ?_;refine tk 5 ?_;refine rd1 2 (fun K hK=>?_);go_simp;go_at_call 36;refine(CB.o _ G0).mono ?_;rintro e w7⟨⟨T,a,rfl,hods⟩,b7'⟩;have b7:zb w6 w7:=G0.trans (b7'.mono G0.size);refine hK.out _ _ ?_ (fun hH=>?_)
  ·(try dsimp only)
   exact SC.o _ b7
  clear hK K;refine nrm ?_;have hods7:OdsP (fun _=>True) w7 (odsOf o p) (.iface T a):=OdsP.keep (fun _ _ _=>rfl) (zN _) (fun b _ hb=>trivial) _ _ hods;have hP7:=hP6.o.below b7;obtain⟨T',a',f,he,hme,hcf,hcan⟩:=odsCanV w4.heap.size F A0 L R f0 c0 cl cr fs ks ts us HQ.o.kl (by have:=HQ.o.fl;omega) (fun f hf=>by have:=HQ.o.fz f hf;omega) (fun t ht=>by have:=HQ.o.st t (List.mem_append_left _ ht);omega) (fun t ht=>by have:=HQ.o.st t (List.mem_append_right _ ht);omega) (by have:=HQ.o.n;omega) (by have:=HQ.o.m;omega) 1000 (by omega) _ _ w7 HRG.o.2 HRG.o.1 hP7 hods7;injection he with he1 he2;subst he1 he2;have B37:Hid (zb w w7):=zH (B03.o.trans ((B36.o.trans (b7.mono s36)).mono s03));have CV:=zH (hcan w7 q rel x _ _ _ _ (zB _ _) HREL.o HXS.o HXO.o (PrfP.keep (fun b _ hlt=>B37.o.block b hlt) B37.o.size (fun _ _ h=>h) _ _ _ _ _ HX.o));rw[HVR.o] at CV;have s07:=B37.o.size;have HB67:=zH b7;clear hods hods7 hP7 hcan b7' b7;refine rd1 6 (fun K hK=>?_);go_simp;refine CV.o.mono ?_;rintro e w8⟨rfl,b8⟩;have HZ:Hid (zb w w8):=zH (B37.o.trans (b8.mono s07));refine hK.out _ _ ?_ (fun hH=>?_)
  ·(try dsimp only)
   exact SC.o _ (HB67.o.trans (b8.mono HB67.o.size))
  clear hK K;refine nrm ?_;refine tk 7 ?_;refine Zw ?_ _;go_wp2_with fail;go_ret;exact⟨by rfl,HZ.o⟩
 have hz1:(z == 0)=false:=by simpa using hz0
 have hz2:(z != 0)=true:=by simpa using hz0
 have hz3:decide (z=0)=false:=by simpa using hz0
 rw[hz3];clear hz0;go_enter Tryz.func14,Tryz.ntmps14;go_wp2_with fail;refine CK.o.mono ?_;rintro e w4⟨rfl,b4⟩;have HZ:=zH (B03.o.trans (b4.mono s03));clear b4 CK hw1 hw2 hw3;go_wp2_with fail;go_ret;exact⟨by rfl,HZ.o⟩
end
end Go.Proofs.YtadjpadieljjlaaGreat
namespace Lfc
def Raw.flx(ks:List Int)(cr:Int):Raw→Bool
 |.node k _ p _=>decide (k=5) && decide (cr≤p) && decide (kindOf ks (p-cr)=1)
end Lfc
namespace Go.Proofs.YtadjpadieljjlaaGreat
open Go.RowKit Go.Maps _root_.Lfc
theorem rKindOf_any(ks:List Int)(A:Option Addr)(c:Nat)(i:Int)(w:World)(hi:0<=i)(hlen:ks.length<=1000000)(h:IntsO w A ks) :
  Calls Tryz.prog 128 #[.slice A ks.length c,zI i] w fun e w'=>e=.returned (zI (kindOf ks i))/\w'=w:=by
 obtain⟨j,rfl⟩:∃j:Nat,i=j:=⟨i.toNat,by omega⟩;have HK:Hid (kindOf ks (j:Int)=if (j:Int)<(ks.length:Int)/\(ks.getD j 0=1\/ks.getD j 0=2) then ks.getD j 0 else 0):=zH rfl;rw[HK.o];clear HK hi;have hj0:=zP j;have m1:decide ((j:Int)<0)=false:=Zu (by omega);have m2:decide ((j:Int)≥0)=true:=Zt (by omega);have m3:decide ((0:Int)<=(j:Int))=true:=Zt (by omega);by_cases hj:j<ks.length
 ·obtain⟨b,o,rfl,hlt,hx⟩:=h (by intro h0;rw[h0] at hj;simp at hj);have hx1:=hx j hj;clear hx;have hjl:(j:Int)<(ks.length:Int):=by omega
  have d1:decide ((j:Int)<(ks.length:Int))=true:=Zt (by omega);have d2:decide ((j:Int)≥(ks.length:Int))=false:=Zu (by omega);have d3:decide ((ks.length:Int)<=(j:Int))=false:=Zu (by omega);have HJL:=zH hjl;obtain⟨z,hz⟩:∃z,ks.getD j 0=z:=⟨_,rfl⟩;rw[hz] at hx1 ⊢;clear h hz;by_cases h1:z=1
  ·subst h1;rw[if_pos ⟨HJL.o,.inl rfl⟩];go_enter Tryz.func128,Tryz.ntmps128;go_wp2_with fail;go_ret;exact⟨rfl,rfl⟩
  by_cases h2:z=2
  ·subst h2;rw[if_pos ⟨HJL.o,.inr rfl⟩];go_enter Tryz.func128,Tryz.ntmps128;go_wp2_with fail;go_ret;exact⟨rfl,rfl⟩
  have hz1:(z == 1)=false:=by simpa using h1
  have hz2:(z == 2)=false:=by simpa using h2
  have hz3:(z != 1)=true:=by simpa using h1
  have hz4:(z != 2)=true:=by simpa using h2
  rw[if_neg (fun h=>h.2.elim h1 h2)];clear h1 h2;go_enter Tryz.func128,Tryz.ntmps128;go_wp2_with fail;go_ret;exact⟨rfl,rfl⟩
 have hjl:¬(j:Int)<(ks.length:Int):=by omega
 have d1:decide ((j:Int)<(ks.length:Int))=false:=Zu (by omega);have d2:decide ((j:Int)≥(ks.length:Int))=true:=Zt (by omega);have d3:decide ((ks.length:Int)<=(j:Int))=true:=Zt (by omega);have HJL:=zH hjl;clear h;rw[if_neg (fun h=>HJL.o h.1)];go_enter Tryz.func128,Tryz.ntmps128;go_wp2_with fail;go_ret;exact⟨rfl,rfl⟩
theorem rLocal_any(ks:List Int)(A:Option Addr)(c:Nat)(i:Int)(w:World)(hi:0<=i)(hlen:ks.length<=1000000)(h:IntsO w A ks) :
  Calls Tryz.prog 129 #[.slice A ks.length c,zI i] w fun e w'=>e=.returned (.bool (decide (kindOf ks i=2)))/\w'=w:=by
 obtain⟨j,rfl⟩:∃j:Nat,i=j:=⟨i.toNat,by omega⟩;have HK:Hid (kindOf ks (j:Int)=if (j:Int)<(ks.length:Int)/\(ks.getD j 0=1\/ks.getD j 0=2) then ks.getD j 0 else 0):=zH rfl;rw[HK.o];clear HK hi;have hj0:=zP j;have m1:decide ((j:Int)<0)=false:=Zu (by omega);have m2:decide ((j:Int)≥0)=true:=Zt (by omega);have m3:decide ((0:Int)<=(j:Int))=true:=Zt (by omega);by_cases hj:j<ks.length
 ·obtain⟨b,o,rfl,hlt,hx⟩:=h (by intro h0;rw[h0] at hj;simp at hj);have hx1:=hx j hj;clear hx;have hjl:(j:Int)<(ks.length:Int):=by omega
  have d1:decide ((j:Int)<(ks.length:Int))=true:=Zt (by omega);have d2:decide ((j:Int)≥(ks.length:Int))=false:=Zu (by omega);have d3:decide ((ks.length:Int)<=(j:Int))=false:=Zu (by omega);have HJL:=zH hjl;obtain⟨z,hz⟩:∃z,ks.getD j 0=z:=⟨_,rfl⟩;rw[hz] at hx1 ⊢;clear h hz;by_cases h1:z=1
  ·subst h1;rw[if_pos ⟨HJL.o,.inl rfl⟩];go_enter Tryz.func129,Tryz.ntmps129;go_wp2_with fail;go_ret;exact⟨rfl,rfl⟩
  by_cases h2:z=2
  ·subst h2;rw[if_pos ⟨HJL.o,.inr rfl⟩];go_enter Tryz.func129,Tryz.ntmps129;go_wp2_with fail;go_ret;exact⟨rfl,rfl⟩
  have hz1:(z == 1)=false:=by simpa using h1
  have hz2:(z == 2)=false:=by simpa using h2
  have hz3:(z != 1)=true:=by simpa using h1
  have hz4:(z != 2)=true:=by simpa using h2
  rw[if_neg (fun h=>h.2.elim h1 h2)];clear h1 h2;go_enter Tryz.func129,Tryz.ntmps129;go_wp2_with fail;go_ret;exact⟨rfl,rfl⟩
 have hjl:¬(j:Int)<(ks.length:Int):=by omega
 have d1:decide ((j:Int)<(ks.length:Int))=false:=Zu (by omega);have d2:decide ((j:Int)≥(ks.length:Int))=true:=Zt (by omega);have d3:decide ((ks.length:Int)<=(j:Int))=true:=Zt (by omega);have HJL:=zH hjl;clear h;rw[if_neg (fun h=>HJL.o h.1)];go_enter Tryz.func129,Tryz.ntmps129;go_wp2_with fail;go_ret;exact⟨rfl,rfl⟩
theorem rFlexible_any(ks:List Int)(A0:Option Addr)(c0 cr:Nat)(t:Raw)(v:Value)(w:World)(hcr:cr<=1000000)(hlen:ks.length<=1000000)(h:IntsO w A0 ks)(hv:TreeV w t v)(ho:t.obj=true) :
  Calls Tryz.prog 119 #[v,.slice A0 ks.length c0,zI (cr:Int)] w fun e w'=>e=.returned (.bool (t.flx ks cr))/\zb w w':=by
 obtain⟨kd,nm,ps,ts⟩:=t;obtain⟨A,c,rfl,hc,hA⟩:=hv.open_;obtain⟨w1,hw1⟩:∃w1,w.alloc (.cells (zT kd nm ps A ts c) 51)=w1:=⟨_,rfl⟩;have b1:=zG hw1;have q1:=zQ hw1;obtain⟨y0,y1,y2,y3⟩:=cells4v q1;have B1:=zH b1;have H1:=zH (h.below b1);have HP:Hid ((Raw.node kd nm ps ts).flx ks cr=(decide (kd=5) && decide ((cr:Int)<=ps) && decide (kindOf ks (ps-cr)=1))):=zH rfl;obtain⟨R,hR⟩:∃R,(Raw.node kd nm ps ts).flx ks cr=R:=⟨_,rfl⟩;rw[hR] at HP ⊢;clear hR;by_cases h5:kd=5
 ·subst h5;have hpb:0<=ps/\ps<=1048576:=by
   rw[Raw.obj] at ho;simp at ho;omega
  by_cases hpc:ps<(cr:Int)
  ·have d1:decide (ps≥(cr:Int))=false:=Zu (by omega);have d2:decide ((cr:Int)<=ps)=false:=Zu (by omega);have HZ:Hid (R=false):=zH (by rw[HP.o,d2];rfl);clear hA hv h ho b1 q1 HP;go_enter Tryz.func119,Tryz.ntmps119;go_wp2_with fail;go_ret;exact⟨by rw[HZ.o];rfl,B1.o⟩
  have d1:decide (ps≥(cr:Int))=true:=Zt (by omega);have d2:decide ((cr:Int)<=ps)=true:=Zt (by omega);have hwr:IntKind.i64.wrap (ps-(cr:Int))=ps-(cr:Int):=Zi _ (by omega);have CK:=zH (rKindOf_any ks A0 c0 (ps-cr) w1 (by omega) hlen H1.o);obtain⟨z,hz⟩:∃z,kindOf ks (ps-cr)=z:=⟨_,rfl⟩;rw[hz] at CK;obtain⟨f,k0,k1,k2⟩:=intCaseV z 1;have HZ:Hid (R=f):=zH (by rw[HP.o,d2,hz,k1];rfl);clear hA hv h ho b1 q1 HP hz k1;have HW1:=zH hw1;clear hw1;go_enter Tryz.func119,Tryz.ntmps119;go_upto_region 1 with fail;rw[HW1.o];go_wp2_with fail;refine CK.o.mono ?_;rintro e w2⟨rfl,rfl⟩;cases f <;> (go_wp2_with fail;go_ret;exact⟨by rw[HZ.o];rfl,B1.o⟩)
 have hk5:(kd == 5)=false:=by simpa using h5
 have hk6:decide (kd=5)=false:=by simpa using h5
 have HZ:Hid (R=false):=zH (by rw[HP.o,hk6];rfl);clear hA hv h ho b1 q1 HP h5;go_enter Tryz.func119,Tryz.ntmps119;go_wp2_with fail;go_ret;exact⟨by rw[HZ.o];rfl,B1.o⟩
theorem rPassable_any(ks:List Int)(A0:Option Addr)(c0 cr:Nat)(t:Raw)(v:Value)(w:World)(hcr:cr<=1000000)(hlen:ks.length<=1000000)(h:IntsO w A0 ks)(hv:TreeV w t v)(ho:t.obj=true) :
  Calls Tryz.prog 111 #[v,.slice A0 ks.length c0,zI (cr:Int)] w fun e w'=>e=.returned (.bool (t.pas ks cr))/\zb w w':=by
 have HV:=zH hv;have HO:=zH ho;obtain⟨kd,nm,ps,ts⟩:=t;obtain⟨A,c,rfl,hc,hA⟩:=hv.open_;obtain⟨w1,hw1⟩:∃w1,w.alloc (.cells (zT kd nm ps A ts c) 51)=w1:=⟨_,rfl⟩;have b1:=zG hw1;have q1:=zQ hw1;obtain⟨y0,y1,y2,y3⟩:=cells4v q1;have B1:=zH b1;have H1:=zH (h.below b1);have HP:Hid ((Raw.node kd nm ps ts).pas ks cr=if kd=3\/kd=4 then true else if kd=5 then !((Raw.node kd nm ps ts).flx ks cr) else false):=zH (by
  rw[Raw.pas];split
  ·rfl
  split
  ·rename_i h5;rw[Raw.flx,Bool.eq_iff_iff];simp[h5]
  rfl)
 obtain⟨R,hR⟩:∃R,(Raw.node kd nm ps ts).pas ks cr=R:=⟨_,rfl⟩;rw[hR] at HP ⊢;clear hR;have CF:=zH (rFlexible_any ks A0 c0 cr _ _ w1 hcr hlen H1.o (HV.o.below b1) HO.o);by_cases h3:kd=3
 ·subst h3;have HZ:Hid (R=true):=zH (by rw[HP.o];rfl);clear hA hv h ho b1 q1 HP CF;go_enter Tryz.func111,Tryz.ntmps111;go_wp2_with fail;go_ret;exact⟨by rw[HZ.o];rfl,B1.o⟩
 by_cases h4:kd=4
 ·subst h4;have HZ:Hid (R=true):=zH (by rw[HP.o];rfl);clear hA hv h ho b1 q1 HP CF h3;go_enter Tryz.func111,Tryz.ntmps111;go_wp2_with fail;go_ret;exact⟨by rw[HZ.o];rfl,B1.o⟩
 have hk3:(kd == 3)=false:=by simpa using h3
 have hk4:(kd == 4)=false:=by simpa using h4
 by_cases h5:kd=5
 ·subst h5;obtain⟨f,hf⟩:∃f,(Raw.node 5 nm ps ts).flx ks cr=f:=⟨_,rfl⟩;rw[hf] at CF HP;have HZ:Hid (R=!f):=zH (by rw[HP.o];rfl);clear hA hv h ho b1 q1 HP hf h3 h4;have HW1:=zH hw1;clear hw1;have s1:=B1.o.size;go_enter Tryz.func111,Tryz.ntmps111;go_upto_region 1 with fail;rw[HW1.o];go_wp2_with fail;refine CF.o.mono ?_;rintro e w2⟨rfl,b2⟩;have HY:=zH (B1.o.trans (b2.mono s1));cases f <;> (go_wp2_with fail;go_ret;exact⟨by rw[HZ.o];rfl,HY.o⟩)
 have hk5:(kd == 5)=false:=by simpa using h5
 have HZ:Hid (R=false):=zH (by rw[HP.o,if_neg (fun h=>h.elim h3 h4),if_neg h5]);clear hA hv h ho b1 q1 HP h3 h4 h5 CF;go_enter Tryz.func111,Tryz.ntmps111;go_wp2_with fail;go_ret;exact⟨by rw[HZ.o];rfl,B1.o⟩
theorem rRelated_any(r:Int)(w:World)(h:r=1\/r=2\/r=3) :
  Calls Tryz.prog 68 #[zI r] w fun e w'=>e=.returned (.bool true)/\w'=w:=by
 rcases h with rfl | rfl | rfl;all_goals
  go_enter Tryz.func68,Tryz.ntmps68;go_wp2_with fail;go_ret;exact⟨rfl,rfl⟩
end Go.Proofs.YtadjpadieljjlaaGreat
