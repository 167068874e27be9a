/- Parts of the proof that no input makes the law false: OrMade, SmOrd, OcAk1, OcImp, OcTrP. -/
import Derived.Test.YtadjpadieljjlaaGreatWvAM
import Derived.Test.YtadjpadieljjlaaGreatWvAP
set_option linter.unusedVariables false
set_option linter.unusedSimpArgs false
set_option maxRecDepth 100000
set_option maxHeartbeats 32000000
namespace Go.Proofs.YtadjpadieljjlaaGreat
section
open Go.RowKit Go.Maps
attribute [local go_sem ↓] Go.wp_at_zero Go.wp_at_succ
theorem TapeI.same{T:Nat}{w w':World}(h:TapeI T w)(hk:∀b,b≤T→w'.heap[b]?=w.heap[b]?):TapeI T w':=by
 obtain⟨A,n,c,i,ht,hi,hn,hc⟩:=h.t;refine⟨⟨A,n,c,i,(hk T (zN _)).trans ht,hi,hn,fun hp=>?_⟩⟩;obtain⟨b,o,hA,hbT,hx⟩:=hc hp;refine⟨b,o,hA,hbT,fun k hk2=>?_⟩;obtain⟨x,hx⟩:=hx k hk2;exact⟨x,(World.cell?_of_block (hk b (by omega))).trans hx⟩
structure MkI(wa:World)(T R base P:Nat)(k:Int)(os:List Lfc.Ord)(A:Option Addr)(c:Nat)(xs:List Value)(wr:World):Prop where
 r:wr.heap[R]?=some (.cells #[.int .i64 k,.int .i64 0,.slice A os.length c] 26 (0,0))
 own:wr.ownsRow base 26 3 (.slice A os.length c) os.length xs
 row:ORow (fun b=>base≤b∧some b≠(Value.slice A os.length c).ownBlock) wr os xs
 oth:Oth T wa wr
 tape:TapeI T wr
 size:base≤wr.heap.size
 few:Lfc.Ord.sizes os+os.length≤os.length*P
 mods:Lfc.Ord.mods 1000 os=true
def MadeO(w:World)(T P:Nat)(e:Ending)(w':World):Prop :=
 (∃o v,e=.returned v∧OrdVP (fun b=>w.heap.size≤b) w' o v∧o.size+1≤P∧o.mod 1000=true)∧TapeI T w'∧Oth T w w'
end
section
open Go.RowKit Go.Maps _root_.Lfc
attribute [local go_sem ↓] Go.wp_at_zero Go.wp_at_succ
def okTab:List Int:=[2,3]
theorem okTab_cell(w:World)(r:Nat)(hr:r<2):(w.alloc (.cells #[.int .i64 2,.int .i64 3] 3)).cell? ⟨w.heap.size,r,none⟩=some (.int .i64 (okTab.getD r 0)):=by
 have q:=zW w (.cells #[.int .i64 2,.int .i64 3] 3)
 match r,hr with
 |0,_=>exact zC q 0
 |1,_=>exact zC q 1
theorem mOrderOf_any:∀(d:Nat),d<=3->∀(T n:Nat)(w:World),0<n->n<=100->TapeI T w ->
  Calls Tryz.prog 30 #[.pointer (some ⟨T,0,none⟩),zI (d:Int),zI (n:Int)] w (MadeO w T (2*3 ^ d)):=by
 intro d;induction d using Nat.strongRecOn with
 |ind d ih0 =>
 intro hd3 T n w hn0 hn1 hT;have IH:=zH ih0;clear ih0;have hTl:=hT.lt;obtain⟨i0,hi,hz0,hz1,hz2⟩:=ord_info;obtain⟨wa,hwa⟩:∃wa,w.alloc (.cells #[zI 0,zI 0,zS] 26)=wa:=⟨_,rfl⟩;have ba:=zG hwa;have qa:=zQ hwa;have la:=zL qa;have QA:=zH qa;have OA:Hid (Oth T w wa):=zH (zE ba);have TA:=zH (hT.below ba);have hp1:1<=3 ^ d:=Nat.one_le_pow _ _ (by omega);have leaf:∀(r2:Nat)(w2:World),r2<n->TapeI T w2->Oth T wa w2->∃s1 s2 s3,w2.setCell ⟨w.heap.size,0,none⟩ (zI 1)=s1/\s1.setCell ⟨w.heap.size,1,none⟩ (zI (r2:Int))=s2/\s2.setCell ⟨w.heap.size,2,none⟩ zS=s3 /\
   (zc w2 w.heap.size 0 (zI 0)/\zc s1 w.heap.size 1 (zI 0)/\zc s2 w.heap.size 2 zS) /\
   (w2.frozen? ⟨w.heap.size,0,none⟩=false/\s1.frozen? ⟨w.heap.size,1,none⟩=false/\s2.frozen? ⟨w.heap.size,2,none⟩=false) /\
   s3.heap[w.heap.size]?=some (.cells #[zI 1,zI (r2:Int),zS] 26 (0,0))/\Hid (MadeO w T (2*3 ^ d) (.returned (.agg #[zI 1,zI (r2:Int),zS])) s3):=by
  intro r2 w2 hr2 t2 o2;have hq2:=o2.heap QA.o (show w.heap.size≠T by omega);obtain⟨s1,s2,s3,g1,g2,g3,hy,hf,hq,hot⟩:=oput3 hq2 (zI 1) (zI (r2:Int)) zS;refine⟨s1,s2,s3,g1,g2,g3,hy,hf,hq,zH ⟨⟨.node 1 (r2:Int) [],_,rfl,OrdVP.mk (ts:=[]) (Nat.zero_le _) (fun h=>absurd rfl h),?_,?_⟩,t2.oth (by omega) hot,?_⟩⟩
  ·simp only[Lfc.Ord.size,Lfc.Ord.sizes];omega
  ·simp only[Lfc.Ord.mod,Lfc.Ord.mods,Bool.and_true,Za,Zd];omega
  refine Oth.of_new (OA.o.trans o2) ⟨hot.os,hot.tape,hot.output,hot.size,fun b hb=>hot.block b (by have:=o2.size;omega) (fun e=>by have:=zO e;omega)⟩
 have LEAF:=zH leaf;clear leaf hT ba qa hp1;go_enter Tryz.func30,Tryz.ntmps30;go_upto_region 1 with fail;clear hwa;by_cases hd0:d=0
 ·subst hd0;go_wp2_with fail;refine(tapeI_next T n wa hn0 hn1 TA.o).mono ?_;rintro e w2⟨⟨r2,hr2,rfl⟩,T2,o2⟩;obtain⟨s1,s2,s3,g1,g2,g3,⟨p0,p1,p2⟩,⟨f0,f1,f2⟩,hq,HZ⟩:=LEAF.o r2 w2 hr2 T2 o2;have HQ:=zH hq;clear hq T2 o2;go_wp2_with fail;refine Zb (results_ord rfl _ _ _ _ _ _ rfl HQ.o) ?_;exact HZ.o
 have hd1:((d:Int) == 0)=false:=by simpa using hd0
 go_wp2_with fail;refine(tapeI_next T 2 wa (by omega) (by omega) TA.o).mono ?_;rintro e w1⟨⟨r1,hr1,rfl⟩,T1',o1'⟩;have hs1:=o1'.size;by_cases hr0:r1=0
 ·subst hr0;have T1:=zH T1';have O1:=zH o1';clear T1' o1';go_wp2_with fail;refine(tapeI_next T n w1 hn0 hn1 T1.o).mono ?_;rintro e w2⟨⟨r2,hr2,rfl⟩,T2,o2⟩;obtain⟨s1,s2,s3,g1,g2,g3,⟨p0,p1,p2⟩,⟨f0,f1,f2⟩,hq,HZ⟩:=LEAF.o r2 w2 hr2 T2 (O1.o.trans o2);have HQ:=zH hq;clear hq T2 o2;go_wp2_with fail;refine Zb (results_ord rfl _ _ _ _ _ _ rfl HQ.o) ?_;exact HZ.o
 have hr11:((r1:Int) == 0)=false:=by simp;omega
 clear hr0;have hdw:IntKind.i64.wrap ((d:Int)-1)=((d-1:Nat):Int):=by rw[Zi _ (by omega)];omega
 have IHD:=zH (IH.o (d-1) (by omega) (by omega));have hpw:2*3 ^ d=3*(2*3 ^ (d-1)):=by
  obtain⟨d',rfl⟩:∃d',d=d'+1:=⟨d-1,by omega⟩;rw[Nat.add_sub_cancel,Nat.pow_succ];omega
 have hpp:2<=2*3 ^ (d-1):=by have:=Nat.one_le_pow (d-1) 3 (by omega);omega
 obtain⟨PP,hPP⟩:∃PP,2*3 ^ (d-1)=PP:=⟨_,rfl⟩;rw[hPP] at hpw hpp IHD;have HPW:=zJ hpw hpp;obtain⟨wt,hwt⟩:∃wt,w1.alloc (.cells #[zI 2,zI 3] 3)=wt:=⟨_,rfl⟩;have bt:=zG hwt;have TAB:Hid (∀r,r<2->zc wt w1.heap.size r (zI (okTab.getD r 0))):=zH (fun r hr=>by rw[<-hwt];exact okTab_cell w1 r hr);have hst:w1.heap.size<wt.heap.size:=by rw[<-hwt];simp
 have TT:=zH (T1'.below bt);have OT:=zH (o1'.trans (zE bt));clear bt T1' o1' hpw hpp hPP IH;go_wp2_with fail;refine(tapeI_next T 2 wt (by omega) (by omega) TT.o).mono ?_;rintro e w0⟨⟨r5,hr5,rfl⟩,T0',o0'⟩;have hs0:=o0'.size;have yt:=(o0'.cell (p:=⟨w1.heap.size,r5,none⟩) (by simp only;omega) (by simp only;omega)).trans (TAB.o r5 hr5);have hi0:(0:Int)<=(r5:Int):=by omega
 have hi1:(r5:Int)<2:=by omega
 generalize okTab.getD r5 0=kk at *;obtain⟨w2,hw2⟩:∃w2,w0.alloc (.cells #[zI kk,zI 0,zS] 26)=w2:=⟨_,rfl⟩;have b2:=zG hw2;have q2:=zQ hw2;have l2:=zL q2;have T2:=zH (T0'.below b2);have O2:=zH ((OT.o.trans o0').trans (zE b2));have Q2:=zH q2;have HW2:=zH hw2;clear hw2 b2 q2 T0' o0' TT OT hwt TAB;go_upto_region 4 with fail;rw[HW2.o];clear HW2 yt;go_wp2_with fail;refine(tapeI_next T 3 w2 (by omega) (by omega) T2.o).mono ?_;rintro e w3⟨⟨r3,hr3,rfl⟩,T3',o3'⟩;have hs3:=o3'.size;have hw3:IntKind.i64.wrap (1+(r3:Int))=((r3+1:Nat):Int):=by rw[Zi _ (by omega)];omega
 have I0:Hid (MkI wa T w0.heap.size (w0.heap.size+1) PP kk [] none 0 [] w3):=zH ⟨o3'.heap Q2.o (by omega),⟨by simp,.inl ⟨rfl,rfl⟩⟩,by rw[ORow],O2.o.trans o3',T3',by omega,by simp[Lfc.Ord.sizes],by simp[Lfc.Ord.mods]⟩;clear T3' o3';obtain⟨N,hN⟩:∃N,r3+1=N:=⟨_,rfl⟩;rw[hN] at hw3;have hN3:N<=3:=by omega
 go_upto_block 0 with fail;go_wp2_with fail;go_loopw [8] (fun i wr=>∃(j:Nat)(os:List Lfc.Ord)(A:Option Addr)(c:Nat)(xs:List Value),j+os.length=N/\i=zI (j:Int)/\Hid (MkI wa T w0.heap.size (w0.heap.size+1) PP kk os A c xs wr)) (fun i _=>(intOf i).toNat);case atStart=>exact⟨N,[],none,0,[],by simp,rfl,I0⟩
 clear I0;obtain⟨j,os,A,c,xs,hjn,rfl,HI⟩:=hrel;have hsb:=HI.o.size;have hol:Hid (os.length=os.length):=zH rfl;by_cases hj:j=0
 ·subst hj;have hpt:=ord_parts (lo:=w.heap.size) (by omega) HI.o.own HI.o.row;have HR:=zH HI.o.r;have hl:os.length=1\/os.length=2\/os.length=3:=by omega
  have hqw:=HI.o.oth.heap QA.o (show w.heap.size≠T by omega);obtain⟨u0,u1,u2⟩:=cells3o HI.o.r;obtain⟨s1,s2,s3,g1,g2,g3,⟨p0,p1,p2⟩,⟨f0,f1,f2⟩,hq,hot⟩:=oput3 hqw (zI kk) (zI 0) (.slice A os.length c);have HQ:=zH hq;have HZ:Hid (MadeO w T (2*3 ^ d) (.returned (.agg #[zI kk,zI 0,.slice A os.length c])) s3):=zH (by
   refine⟨⟨.node kk 0 os,_,rfl,OrdVP.mk hpt.2 ?_,?_,?_⟩,HI.o.tape.oth (by omega) hot,?_⟩
   ·have hpt2:=ord_parts (lo:=w0.heap.size) (by omega) HI.o.own HI.o.row;refine hpt2.1.keep (fun b hb hlt=>?_) hot.size (fun b _ hb=>by have hb:w0.heap.size<=b:=hb;show w.heap.size<=b;omega);have hb:w0.heap.size<=b:=hb;exact hot.block b hlt (fun e=>by have:=zO e;omega)
   ·have h1:=HI.o.few;have h2:=HPW.o.1;have h3:=HPW.o.2;simp only[Lfc.Ord.size];rcases hl with hl | hl | hl
    ·rw[hl] at h1;omega
    ·rw[hl] at h1;omega
    rw[hl] at h1;omega
   ·simp only[Lfc.Ord.mod,HI.o.mods,Bool.and_true,Za,Zd];omega
   refine Oth.of_new (OA.o.trans HI.o.oth) ⟨hot.os,hot.tape,hot.output,hot.size,fun b hb=>hot.block b (by omega) (fun e=>by have:=zO e;omega)⟩)
  clear hq hot hpt HI hqw hl hjn hol;go_wp2_with fail;refine Zb (results_ord rfl _ _ _ _ _ _ rfl HQ.o) ?_;exact HZ.o
 have hj1:decide ((j:Int)>0)=true:=Zt (by omega);have hj2:decide ((0:Int)<(j:Int))=true:=Zt (by omega);have hjw:IntKind.i64.wrap ((j:Int)-1)=((j-1:Nat):Int):=by rw[Zi _ (by omega)];omega
 have HR:=zH HI.o.r;have HOWN:=zH HI.o.own;have HROW:=zH HI.o.row;have HOX:=zH HI.o.oth;have TX:=zH HI.o.tape;have hbx:=HI.o.size;have hlo:os.length<=3:=by omega
 have HFM:=zJ HI.o.few HI.o.mods;have HJN:=zH hjn;obtain⟨lo,hlo2⟩:∃lo,os.length=lo:=⟨_,rfl⟩;have hol:=zH hlo2;rw[hlo2] at HR HOWN HROW hlo;have yx:zc wr w0.heap.size 2 (.slice A lo c):=zC HR.o 2;have hlm:lo+1<=maxLen:=by unfold maxLen;omega
 have hl40:(lo+1)*40<=140737488355328:=by omega
 have hrb:w0.heap.size<w0.heap.size+1:=Nat.lt_succ_self _;have hTr:T<w0.heap.size:=by omega
 have hrT:w0.heap.size≠T:=by omega
 have hTow:(Value.slice A lo c).ownBlock=some T->False:=fun e=>by have:=(HOWN.o.lt _ e).1;omega
 have hwa3:wa.heap.size<=w0.heap.size:=by omega
 clear HI hlo2 hjn;go_upto_region 7 with fail;go_region_law (first
  |(go_simp;go_at_call 30;refine(IHD.o T n _ hn0 hn1 (TX.o.below (zB _ _).drew)).mono ?_;rintro e w9⟨⟨t9,v9,rfl,hv9,hz9,hm9⟩,T9,o9⟩;obtain⟨k9,a9,ts9,ht9⟩:=ord_node t9;rw[ht9] at hv9;obtain⟨A9,c9,rfl,hp9⟩:=hv9.open_;have q9:=o9.heap HR.o hrT;have y9:zc w9 w0.heap.size 2 (.slice A lo c):=zC q9 2;have y9a:∀o,(w9.alloc o).cell? ⟨w0.heap.size,2,none⟩=some (.slice A lo c):=fun o=>zC ((zA _ _ _ (zL q9)).trans q9) 2;have hown9:=HOWN.o.drew.kept o9 (Or.inr hTow);have hs9':w0.heap.size+1<=w9.heap.size:=zR hbx o9.size)
  |(refine step_append_own_at _ (by rfl) _ _ 24 (by rfl) (w0.heap.size+1) 26 i0 (.agg #[zI 0,zI 0,zS]) 3 40 Tryz.underlying24 hi hz0 hz1 hz2 rfl (by decide) _ _ _ (by rfl) (hown9.alloc _) ⟨w9.heap.size,0,none⟩ 1 1 [zI k9,zI a9,.slice A9 ts9.length c9] (by rfl) (by rfl) (fun j u h=>ocells_new w9 _ rfl [zI k9,zI a9,.slice A9 ts9.length c9] _ j u h) oneCell3 hlm hl40 (oalloc_le hs9') ?_;intro v' w10 hown10 hg10 hloc10;obtain⟨A10,c10,rfl⟩:=oform hown10;obtain⟨hr10,hfin⟩:=ord_final (ts:=os) hrb hTr hbx hwa3 HR.o (by rw[hol.o];exact HOWN.o) HROW.o HOX.o o9 hp9 (by rw[hol.o];exact hown10) hg10 (oalloc_loc hloc10);have y10:=(zC hr10 2:zc w10 w0.heap.size 2 (.slice A lo c));have f10:=zF hr10 2))
 all_goals
  obtain⟨f1,f2,f3,f4,f5,f6,f7⟩:=hfin;have HNX:Hid (MkI wa T w0.heap.size (w0.heap.size+1) PP kk (os++[t9]) A10 c10 (xs++[zI k9,zI a9,.slice A9 ts9.length c9]) (w10.setCell ⟨w0.heap.size,2,none⟩ (.slice A10 (lo+1) c10))):=zH (by
   have el:(os++[t9]).length=lo+1:=(by rw[Zq,hol.o];rfl);refine⟨by rw[el];exact f1,by rw[el];rw[<-ht9,el] at f2;exact f2,by rw[el,ht9];exact f3,f4,T9.same (fun b hb=>?_),f5,?_,?_⟩
   ·by_cases hbT:b=T
    ·rw[hbT];exact f7
    rw[f6 b (by omega) (by omega) hbT];exact(o9.block b (by show b<wr.heap.size;omega) (fun e=>hbT (zO e))).symm
   ·rw[el,Lfc.Ord.sizes_app];have h1:=HFM.o.1;rw[hol.o] at h1;simp only[Lfc.Ord.sizes];have h2:(lo+1)*PP=lo*PP+PP:=Nat.succ_mul _ _;omega
   rw[mods_app,HFM.o.2];simp only[Lfc.Ord.mods,hm9,Bool.and_true])
  have HJ2:Hid (j-1+(os++[t9]).length=N):=zH (by
   have:=HJN.o;rw[Zq];simp only[List.length_singleton];omega)
  clear f1 f2 f3 f4 f5 f6 f7 hp9 o9 hown9 hown10 hg10 ht9 hz9 hm9 T9;go_wp2_with fail;go_roundw;case rel=>exact⟨j-1,os++[t9],A10,c10,_,HJ2.o,rfl,HNX⟩
  case measure=>simp[intOf];omega
end
end Go.Proofs.YtadjpadieljjlaaGreat
namespace Lfc
def good(t:Raw):Prop:=t.size≤40∧t.posB 1048576=true
end Lfc
namespace Go.Proofs.YtadjpadieljjlaaGreat
open Go.RowKit Go.Maps _root_.Lfc
theorem put9{W:World}{R:Nat}{a0 a1 a2 a3 a4 a5 a6 a7 a8:Value}{t:TypeId}(h:W.heap[R]?=some (.cells #[a0,a1,a2,a3,a4,a5,a6,a7,a8] t (0,0)))(v0 v1 v2 v3 v4 v5 v6 v7 v8:Value):∃s1 s2 s3 s4 s5 s6 s7 s8 s9,W.setCell ⟨R,0,none⟩ v0=s1∧s1.setCell ⟨R,1,none⟩ v1=s2∧s2.setCell ⟨R,2,none⟩ v2=s3∧s3.setCell ⟨R,3,none⟩ v3=s4∧s4.setCell ⟨R,4,none⟩ v4=s5∧s5.setCell ⟨R,5,none⟩ v5=s6∧s6.setCell ⟨R,6,none⟩ v6=s7∧s7.setCell ⟨R,7,none⟩ v7=s8∧s8.setCell ⟨R,8,none⟩ v8=s9 ∧
  (W.cell? ⟨R,0,none⟩=some a0∧s1.cell? ⟨R,1,none⟩=some a1∧s2.cell? ⟨R,2,none⟩=some a2∧s3.cell? ⟨R,3,none⟩=some a3∧s4.cell? ⟨R,4,none⟩=some a4∧s5.cell? ⟨R,5,none⟩=some a5∧s6.cell? ⟨R,6,none⟩=some a6∧s7.cell? ⟨R,7,none⟩=some a7∧s8.cell? ⟨R,8,none⟩=some a8) ∧
  (W.frozen? ⟨R,0,none⟩=false∧s1.frozen? ⟨R,1,none⟩=false∧s2.frozen? ⟨R,2,none⟩=false∧s3.frozen? ⟨R,3,none⟩=false∧s4.frozen? ⟨R,4,none⟩=false∧s5.frozen? ⟨R,5,none⟩=false∧s6.frozen? ⟨R,6,none⟩=false∧s7.frozen? ⟨R,7,none⟩=false∧s8.frozen? ⟨R,8,none⟩=false) ∧
  s9.heap[R]?=some (.cells #[v0,v1,v2,v3,v4,v5,v6,v7,v8] t (0,0))∧Oth R W s9:=by
 obtain⟨s1,h1⟩:∃s1,W.setCell ⟨R,0,none⟩ v0=s1:=⟨_,rfl⟩;obtain⟨s2,h2⟩:∃s2,s1.setCell ⟨R,1,none⟩ v1=s2:=⟨_,rfl⟩;obtain⟨s3,h3⟩:∃s3,s2.setCell ⟨R,2,none⟩ v2=s3:=⟨_,rfl⟩;obtain⟨s4,h4⟩:∃s4,s3.setCell ⟨R,3,none⟩ v3=s4:=⟨_,rfl⟩;obtain⟨s5,h5⟩:∃s5,s4.setCell ⟨R,4,none⟩ v4=s5:=⟨_,rfl⟩;obtain⟨s6,h6⟩:∃s6,s5.setCell ⟨R,5,none⟩ v5=s6:=⟨_,rfl⟩;obtain⟨s7,h7⟩:∃s7,s6.setCell ⟨R,6,none⟩ v6=s7:=⟨_,rfl⟩;obtain⟨s8,h8⟩:∃s8,s7.setCell ⟨R,7,none⟩ v7=s8:=⟨_,rfl⟩;obtain⟨s9,h9⟩:∃s9,s8.setCell ⟨R,8,none⟩ v8=s9:=⟨_,rfl⟩;have q1:s1.heap[R]?=some (.cells #[v0,a1,a2,a3,a4,a5,a6,a7,a8] t (0,0)):=zU h h1;have q2:s2.heap[R]?=some (.cells #[v0,v1,a2,a3,a4,a5,a6,a7,a8] t (0,0)):=zU q1 h2;have q3:s3.heap[R]?=some (.cells #[v0,v1,v2,a3,a4,a5,a6,a7,a8] t (0,0)):=zU q2 h3;have q4:s4.heap[R]?=some (.cells #[v0,v1,v2,v3,a4,a5,a6,a7,a8] t (0,0)):=zU q3 h4;have q5:s5.heap[R]?=some (.cells #[v0,v1,v2,v3,v4,a5,a6,a7,a8] t (0,0)):=zU q4 h5;have q6:s6.heap[R]?=some (.cells #[v0,v1,v2,v3,v4,v5,a6,a7,a8] t (0,0)):=zU q5 h6;have q7:s7.heap[R]?=some (.cells #[v0,v1,v2,v3,v4,v5,v6,a7,a8] t (0,0)):=zU q6 h7;have q8:s8.heap[R]?=some (.cells #[v0,v1,v2,v3,v4,v5,v6,v7,a8] t (0,0)):=zU q7 h8;have q9:s9.heap[R]?=some (.cells #[v0,v1,v2,v3,v4,v5,v6,v7,v8] t (0,0)):=zU q8 h9;refine⟨s1,s2,s3,s4,s5,s6,s7,s8,s9,h1,h2,h3,h4,h5,h6,h7,h8,h9,⟨zC h 0,zC q1 1,zC q2 2,zC q3 3,zC q4 4,zC q5 5,zC q6 6,zC q7 7,zC q8 8⟩,⟨zF h 0,zF q1 1,zF q2 2,zF q3 3,zF q4 4,zF q5 5,zF q6 6,zF q7 7,zF q8 8⟩,q9,?_⟩;rw[←h9,←h8,←h7,←h6,←h5,←h4,←h3,←h2,←h1];exact((((((((Oth.set W v0).trans (Oth.set _ v1)).trans (Oth.set _ v2)).trans (Oth.set _ v3)).trans (Oth.set _ v4)).trans (Oth.set _ v5)).trans (Oth.set _ v6)).trans (Oth.set _ v7)).trans (Oth.set _ v8)
theorem put11{W:World}{R:Nat}{a0 a1 a2 a3 a4 a5 a6 a7 a8 a9 a10:Value}{t:TypeId}(h:W.heap[R]?=some (.cells #[a0,a1,a2,a3,a4,a5,a6,a7,a8,a9,a10] t (0,0)))(v0 v1 v2 v3 v4 v5 v6 v7 v8 v9 v10:Value):∃s1 s2 s3 s4 s5 s6 s7 s8 s9 s10 s11,W.setCell ⟨R,0,none⟩ v0=s1∧s1.setCell ⟨R,1,none⟩ v1=s2∧s2.setCell ⟨R,2,none⟩ v2=s3∧s3.setCell ⟨R,3,none⟩ v3=s4∧s4.setCell ⟨R,4,none⟩ v4=s5∧s5.setCell ⟨R,5,none⟩ v5=s6∧s6.setCell ⟨R,6,none⟩ v6=s7∧s7.setCell ⟨R,7,none⟩ v7=s8∧s8.setCell ⟨R,8,none⟩ v8=s9∧s9.setCell ⟨R,9,none⟩ v9=s10∧s10.setCell ⟨R,10,none⟩ v10=s11 ∧
  (W.cell? ⟨R,0,none⟩=some a0∧s1.cell? ⟨R,1,none⟩=some a1∧s2.cell? ⟨R,2,none⟩=some a2∧s3.cell? ⟨R,3,none⟩=some a3∧s4.cell? ⟨R,4,none⟩=some a4∧s5.cell? ⟨R,5,none⟩=some a5∧s6.cell? ⟨R,6,none⟩=some a6∧s7.cell? ⟨R,7,none⟩=some a7∧s8.cell? ⟨R,8,none⟩=some a8∧s9.cell? ⟨R,9,none⟩=some a9∧s10.cell? ⟨R,10,none⟩=some a10) ∧
  (W.frozen? ⟨R,0,none⟩=false∧s1.frozen? ⟨R,1,none⟩=false∧s2.frozen? ⟨R,2,none⟩=false∧s3.frozen? ⟨R,3,none⟩=false∧s4.frozen? ⟨R,4,none⟩=false∧s5.frozen? ⟨R,5,none⟩=false∧s6.frozen? ⟨R,6,none⟩=false∧s7.frozen? ⟨R,7,none⟩=false∧s8.frozen? ⟨R,8,none⟩=false∧s9.frozen? ⟨R,9,none⟩=false∧s10.frozen? ⟨R,10,none⟩=false) ∧
  s11.heap[R]?=some (.cells #[v0,v1,v2,v3,v4,v5,v6,v7,v8,v9,v10] t (0,0))∧Oth R W s11:=by
 obtain⟨s1,h1⟩:∃s1,W.setCell ⟨R,0,none⟩ v0=s1:=⟨_,rfl⟩;obtain⟨s2,h2⟩:∃s2,s1.setCell ⟨R,1,none⟩ v1=s2:=⟨_,rfl⟩;obtain⟨s3,h3⟩:∃s3,s2.setCell ⟨R,2,none⟩ v2=s3:=⟨_,rfl⟩;obtain⟨s4,h4⟩:∃s4,s3.setCell ⟨R,3,none⟩ v3=s4:=⟨_,rfl⟩;obtain⟨s5,h5⟩:∃s5,s4.setCell ⟨R,4,none⟩ v4=s5:=⟨_,rfl⟩;obtain⟨s6,h6⟩:∃s6,s5.setCell ⟨R,5,none⟩ v5=s6:=⟨_,rfl⟩;obtain⟨s7,h7⟩:∃s7,s6.setCell ⟨R,6,none⟩ v6=s7:=⟨_,rfl⟩;obtain⟨s8,h8⟩:∃s8,s7.setCell ⟨R,7,none⟩ v7=s8:=⟨_,rfl⟩;obtain⟨s9,h9⟩:∃s9,s8.setCell ⟨R,8,none⟩ v8=s9:=⟨_,rfl⟩;obtain⟨s10,h10⟩:∃s10,s9.setCell ⟨R,9,none⟩ v9=s10:=⟨_,rfl⟩;obtain⟨s11,h11⟩:∃s11,s10.setCell ⟨R,10,none⟩ v10=s11:=⟨_,rfl⟩;have q1:s1.heap[R]?=some (.cells #[v0,a1,a2,a3,a4,a5,a6,a7,a8,a9,a10] t (0,0)):=zU h h1;have q2:s2.heap[R]?=some (.cells #[v0,v1,a2,a3,a4,a5,a6,a7,a8,a9,a10] t (0,0)):=zU q1 h2;have q3:s3.heap[R]?=some (.cells #[v0,v1,v2,a3,a4,a5,a6,a7,a8,a9,a10] t (0,0)):=zU q2 h3;have q4:s4.heap[R]?=some (.cells #[v0,v1,v2,v3,a4,a5,a6,a7,a8,a9,a10] t (0,0)):=zU q3 h4;have q5:s5.heap[R]?=some (.cells #[v0,v1,v2,v3,v4,a5,a6,a7,a8,a9,a10] t (0,0)):=zU q4 h5;have q6:s6.heap[R]?=some (.cells #[v0,v1,v2,v3,v4,v5,a6,a7,a8,a9,a10] t (0,0)):=zU q5 h6;have q7:s7.heap[R]?=some (.cells #[v0,v1,v2,v3,v4,v5,v6,a7,a8,a9,a10] t (0,0)):=zU q6 h7;have q8:s8.heap[R]?=some (.cells #[v0,v1,v2,v3,v4,v5,v6,v7,a8,a9,a10] t (0,0)):=zU q7 h8;have q9:s9.heap[R]?=some (.cells #[v0,v1,v2,v3,v4,v5,v6,v7,v8,a9,a10] t (0,0)):=zU q8 h9;have q10:s10.heap[R]?=some (.cells #[v0,v1,v2,v3,v4,v5,v6,v7,v8,v9,a10] t (0,0)):=zU q9 h10;have q11:s11.heap[R]?=some (.cells #[v0,v1,v2,v3,v4,v5,v6,v7,v8,v9,v10] t (0,0)):=zU q10 h11;refine⟨s1,s2,s3,s4,s5,s6,s7,s8,s9,s10,s11,h1,h2,h3,h4,h5,h6,h7,h8,h9,h10,h11,⟨zC h 0,zC q1 1,zC q2 2,zC q3 3,zC q4 4,zC q5 5,zC q6 6,zC q7 7,zC q8 8,zC q9 9,zC q10 10⟩,⟨zF h 0,zF q1 1,zF q2 2,zF q3 3,zF q4 4,zF q5 5,zF q6 6,zF q7 7,zF q8 8,zF q9 9,zF q10 10⟩,q11,?_⟩;rw[←h11,←h10,←h9,←h8,←h7,←h6,←h5,←h4,←h3,←h2,←h1];exact((((((((((Oth.set W v0).trans (Oth.set _ v1)).trans (Oth.set _ v2)).trans (Oth.set _ v3)).trans (Oth.set _ v4)).trans (Oth.set _ v5)).trans (Oth.set _ v6)).trans (Oth.set _ v7)).trans (Oth.set _ v8)).trans (Oth.set _ v9)).trans (Oth.set _ v10)
theorem put9l{W:World}{R:Nat}{a0 a1 a2 a3 a4 a5 a6 a7 a8:Value}{t:TypeId}(h:W.heap[R]?=some (.cells #[a0,a1,a2,a3,a4,a5,a6,a7,a8] t (0,0)))(v0 v1 v2 v3:Value):∃s1 s2 s3 s4,W.setCell ⟨R,0,none⟩ v0=s1∧s1.setCell ⟨R,1,none⟩ v1=s2∧s2.setCell ⟨R,2,none⟩ v2=s3∧s3.setCell ⟨R,3,none⟩ v3=s4 ∧
  (W.cell? ⟨R,0,none⟩=some a0∧s1.cell? ⟨R,1,none⟩=some a1∧s2.cell? ⟨R,2,none⟩=some a2∧s3.cell? ⟨R,3,none⟩=some a3) ∧
  (W.frozen? ⟨R,0,none⟩=false∧s1.frozen? ⟨R,1,none⟩=false∧s2.frozen? ⟨R,2,none⟩=false∧s3.frozen? ⟨R,3,none⟩=false) ∧
  s4.heap[R]?=some (.cells #[v0,v1,v2,v3,a4,a5,a6,a7,a8] t (0,0))∧Oth R W s4:=by
 obtain⟨s1,h1⟩:∃s1,W.setCell ⟨R,0,none⟩ v0=s1:=⟨_,rfl⟩;obtain⟨s2,h2⟩:∃s2,s1.setCell ⟨R,1,none⟩ v1=s2:=⟨_,rfl⟩;obtain⟨s3,h3⟩:∃s3,s2.setCell ⟨R,2,none⟩ v2=s3:=⟨_,rfl⟩;obtain⟨s4,h4⟩:∃s4,s3.setCell ⟨R,3,none⟩ v3=s4:=⟨_,rfl⟩;have q1:s1.heap[R]?=some (.cells #[v0,a1,a2,a3,a4,a5,a6,a7,a8] t (0,0)):=zU h h1;have q2:s2.heap[R]?=some (.cells #[v0,v1,a2,a3,a4,a5,a6,a7,a8] t (0,0)):=zU q1 h2;have q3:s3.heap[R]?=some (.cells #[v0,v1,v2,a3,a4,a5,a6,a7,a8] t (0,0)):=zU q2 h3;have q4:s4.heap[R]?=some (.cells #[v0,v1,v2,v3,a4,a5,a6,a7,a8] t (0,0)):=zU q3 h4;refine⟨s1,s2,s3,s4,h1,h2,h3,h4,⟨zC h 0,zC q1 1,zC q2 2,zC q3 3⟩,⟨zF h 0,zF q1 1,zF q2 2,zF q3 3⟩,q4,?_⟩;rw[←h4,←h3,←h2,←h1];exact(((Oth.set W v0).trans (Oth.set _ v1)).trans (Oth.set _ v2)).trans (Oth.set _ v3)
theorem put9r{W:World}{R:Nat}{a0 a1 a2 a3 a4 a5 a6 a7 a8:Value}{t:TypeId}(h:W.heap[R]?=some (.cells #[a0,a1,a2,a3,a4,a5,a6,a7,a8] t (0,0)))(v5 v6 v7 v8:Value):∃s1 s2 s3 s4,W.setCell ⟨R,5,none⟩ v5=s1∧s1.setCell ⟨R,6,none⟩ v6=s2∧s2.setCell ⟨R,7,none⟩ v7=s3∧s3.setCell ⟨R,8,none⟩ v8=s4 ∧
  (W.cell? ⟨R,5,none⟩=some a5∧s1.cell? ⟨R,6,none⟩=some a6∧s2.cell? ⟨R,7,none⟩=some a7∧s3.cell? ⟨R,8,none⟩=some a8) ∧
  (W.frozen? ⟨R,5,none⟩=false∧s1.frozen? ⟨R,6,none⟩=false∧s2.frozen? ⟨R,7,none⟩=false∧s3.frozen? ⟨R,8,none⟩=false) ∧
  s4.heap[R]?=some (.cells #[a0,a1,a2,a3,a4,v5,v6,v7,v8] t (0,0))∧Oth R W s4:=by
 obtain⟨s1,h1⟩:∃s1,W.setCell ⟨R,5,none⟩ v5=s1:=⟨_,rfl⟩;obtain⟨s2,h2⟩:∃s2,s1.setCell ⟨R,6,none⟩ v6=s2:=⟨_,rfl⟩;obtain⟨s3,h3⟩:∃s3,s2.setCell ⟨R,7,none⟩ v7=s3:=⟨_,rfl⟩;obtain⟨s4,h4⟩:∃s4,s3.setCell ⟨R,8,none⟩ v8=s4:=⟨_,rfl⟩;have q1:s1.heap[R]?=some (.cells #[a0,a1,a2,a3,a4,v5,a6,a7,a8] t (0,0)):=zU h h1;have q2:s2.heap[R]?=some (.cells #[a0,a1,a2,a3,a4,v5,v6,a7,a8] t (0,0)):=zU q1 h2;have q3:s3.heap[R]?=some (.cells #[a0,a1,a2,a3,a4,v5,v6,v7,a8] t (0,0)):=zU q2 h3;have q4:s4.heap[R]?=some (.cells #[a0,a1,a2,a3,a4,v5,v6,v7,v8] t (0,0)):=zU q3 h4;refine⟨s1,s2,s3,s4,h1,h2,h3,h4,⟨zC h 5,zC q1 6,zC q2 7,zC q3 8⟩,⟨zF h 5,zF q1 6,zF q2 7,zF q3 8⟩,q4,?_⟩;rw[←h4,←h3,←h2,←h1];exact(((Oth.set W v5).trans (Oth.set _ v6)).trans (Oth.set _ v7)).trans (Oth.set _ v8)
theorem put11o{W:World}{R:Nat}{a0 a1 a2 a3 a4 a5 a6 a7 a8 a9 a10:Value}{t:TypeId}(h:W.heap[R]?=some (.cells #[a0,a1,a2,a3,a4,a5,a6,a7,a8,a9,a10] t (0,0)))(v2 v3 v4:Value):∃s1 s2 s3,W.setCell ⟨R,2,none⟩ v2=s1∧s1.setCell ⟨R,3,none⟩ v3=s2∧s2.setCell ⟨R,4,none⟩ v4=s3 ∧
  (W.cell? ⟨R,2,none⟩=some a2∧s1.cell? ⟨R,3,none⟩=some a3∧s2.cell? ⟨R,4,none⟩=some a4) ∧
  (W.frozen? ⟨R,2,none⟩=false∧s1.frozen? ⟨R,3,none⟩=false∧s2.frozen? ⟨R,4,none⟩=false) ∧
  s3.heap[R]?=some (.cells #[a0,a1,v2,v3,v4,a5,a6,a7,a8,a9,a10] t (0,0))∧Oth R W s3:=by
 obtain⟨s1,h1⟩:∃s1,W.setCell ⟨R,2,none⟩ v2=s1:=⟨_,rfl⟩;obtain⟨s2,h2⟩:∃s2,s1.setCell ⟨R,3,none⟩ v3=s2:=⟨_,rfl⟩;obtain⟨s3,h3⟩:∃s3,s2.setCell ⟨R,4,none⟩ v4=s3:=⟨_,rfl⟩;have q1:s1.heap[R]?=some (.cells #[a0,a1,v2,a3,a4,a5,a6,a7,a8,a9,a10] t (0,0)):=zU h h1;have q2:s2.heap[R]?=some (.cells #[a0,a1,v2,v3,a4,a5,a6,a7,a8,a9,a10] t (0,0)):=zU q1 h2;have q3:s3.heap[R]?=some (.cells #[a0,a1,v2,v3,v4,a5,a6,a7,a8,a9,a10] t (0,0)):=zU q2 h3;refine⟨s1,s2,s3,h1,h2,h3,⟨zC h 2,zC q1 3,zC q2 4⟩,⟨zF h 2,zF q1 3,zF q2 4⟩,q3,?_⟩;rw[←h3,←h2,←h1];exact((Oth.set W v2).trans (Oth.set _ v3)).trans (Oth.set _ v4)
theorem put11p{W:World}{R:Nat}{a0 a1 a2 a3 a4 a5 a6 a7 a8 a9 a10:Value}{t:TypeId}(h:W.heap[R]?=some (.cells #[a0,a1,a2,a3,a4,a5,a6,a7,a8,a9,a10] t (0,0)))(v5 v6 v7:Value):∃s1 s2 s3,W.setCell ⟨R,5,none⟩ v5=s1∧s1.setCell ⟨R,6,none⟩ v6=s2∧s2.setCell ⟨R,7,none⟩ v7=s3 ∧
  (W.cell? ⟨R,5,none⟩=some a5∧s1.cell? ⟨R,6,none⟩=some a6∧s2.cell? ⟨R,7,none⟩=some a7) ∧
  (W.frozen? ⟨R,5,none⟩=false∧s1.frozen? ⟨R,6,none⟩=false∧s2.frozen? ⟨R,7,none⟩=false) ∧
  s3.heap[R]?=some (.cells #[a0,a1,a2,a3,a4,v5,v6,v7,a8,a9,a10] t (0,0))∧Oth R W s3:=by
 obtain⟨s1,h1⟩:∃s1,W.setCell ⟨R,5,none⟩ v5=s1:=⟨_,rfl⟩;obtain⟨s2,h2⟩:∃s2,s1.setCell ⟨R,6,none⟩ v6=s2:=⟨_,rfl⟩;obtain⟨s3,h3⟩:∃s3,s2.setCell ⟨R,7,none⟩ v7=s3:=⟨_,rfl⟩;have q1:s1.heap[R]?=some (.cells #[a0,a1,a2,a3,a4,v5,a6,a7,a8,a9,a10] t (0,0)):=zU h h1;have q2:s2.heap[R]?=some (.cells #[a0,a1,a2,a3,a4,v5,v6,a7,a8,a9,a10] t (0,0)):=zU q1 h2;have q3:s3.heap[R]?=some (.cells #[a0,a1,a2,a3,a4,v5,v6,v7,a8,a9,a10] t (0,0)):=zU q2 h3;refine⟨s1,s2,s3,h1,h2,h3,⟨zC h 5,zC q1 6,zC q2 7⟩,⟨zF h 5,zF q1 6,zF q2 7⟩,q3,?_⟩;rw[←h3,←h2,←h1];exact((Oth.set W v5).trans (Oth.set _ v6)).trans (Oth.set _ v7)
structure Mid(w3 wr:World)(vL0 vR0:Value)(W:World)(vL:Value)(nL:Nat)(xL:List Value)(vR:Value)(nR:Nat)(xR:List Value):Prop where
 L:W.ownsRow w3.heap.size 51 4 vL nL xL
 R:W.ownsRow w3.heap.size 51 4 vR nR xR
 dj:∀b,vL.ownBlock=some b→vR.ownBlock≠some b
 keep:∀b,b<wr.heap.size→vL0.ownBlock≠some b→vR0.ownBlock≠some b→W.heap[b]?=wr.heap[b]?
 fL:vL.ownBlock=vL0.ownBlock∨∃g,vL.ownBlock=some g∧wr.heap.size≤g
 fR:vR.ownBlock=vR0.ownBlock∨∃g,vR.ownBlock=some g∧wr.heap.size≤g
 size:wr.heap.size≤W.heap.size
 os:W.os=wr.os
 tape:W.tape=wr.tape
 output:W.output=wr.output
theorem Mid.start{w3 wr:World}{vL vR:Value}{nL nR:Nat}{xL xR:List Value}(hL:wr.ownsRow w3.heap.size 51 4 vL nL xL)(hR:wr.ownsRow w3.heap.size 51 4 vR nR xR)(hd:∀b,vL.ownBlock=some b→vR.ownBlock≠some b):Mid w3 wr vL vR wr.drew vL nL xL vR nR xR :=
 ⟨hL.drew,hR.drew,hd,fun _ _ _ _=>rfl,.inl rfl,.inl rfl,zN _,rfl,rfl,rfl⟩
theorem Mid.alloc{w3 wr W:World}{vL0 vR0 vL vR:Value}{nL nR:Nat}{xL xR:List Value}(h:Mid w3 wr vL0 vR0 W vL nL xL vR nR xR)(o:Obj):Mid w3 wr vL0 vR0 (W.alloc o) vL nL xL vR nR xR :=
 ⟨h.L.alloc _,h.R.alloc _,h.dj,fun b hb h1 h2=>(zA _ _ _ (Zl hb h.size)).trans (h.keep b hb h1 h2),h.fL,h.fR,zR h.size (by simp),h.os,h.tape,h.output⟩
theorem Mid.appL{w3 wr W w':World}{vL0 vR0 vL vR v':Value}{nL nR nL':Nat}{xL xR xL':List Value}(h:Mid w3 wr vL0 vR0 W vL nL xL vR nR xR)(hown:w'.ownsRow w3.heap.size 51 4 v' nL' xL')(hg:W.grownBy w' vL.ownBlock)(hloc:v'.ownBlock=vL.ownBlock∨v'.ownBlock=some W.heap.size):Mid w3 wr vL0 vR0 w' v' nL' xL' vR nR xR:=by
 have hs:=hg.size;have hsz:=h.size;refine⟨hown,ownsRow_keep h.R (fun g hg2=>hg.block g (h.R.lt g hg2).2 (fun e=>h.dj g e.symm hg2)),fun b hb hb2=>?_,fun b hb h1 h2=>?_,?_,h.fR,by omega,hg.os.trans h.os,hg.tape.trans h.tape,hg.output.trans h.output⟩
 ·rcases hloc with e | e
  ·exact h.dj b (e ▸ hb) hb2
  rw[e] at hb;have:=zO hb;have:=(h.R.lt b hb2).2;omega
 ·refine(hg.block b (by omega) (fun e=>?_)).trans (h.keep b hb h1 h2);rcases h.fL with e2 | ⟨g,e2,hge⟩
  ·exact h1 (e2 ▸ e.symm)
  rw[e2] at e;have:=zO e;omega
 rcases hloc with e | e
 ·rw[e];exact h.fL
 exact .inr ⟨_,e,hsz⟩
theorem Mid.appR{w3 wr W w':World}{vL0 vR0 vL vR v':Value}{nL nR nR':Nat}{xL xR xR':List Value}(h:Mid w3 wr vL0 vR0 W vL nL xL vR nR xR)(hown:w'.ownsRow w3.heap.size 51 4 v' nR' xR')(hg:W.grownBy w' vR.ownBlock)(hloc:v'.ownBlock=vR.ownBlock∨v'.ownBlock=some W.heap.size):Mid w3 wr vL0 vR0 w' vL nL xL v' nR' xR':=by
 have hs:=hg.size;have hsz:=h.size;refine⟨ownsRow_keep h.L (fun g hg2=>hg.block g (h.L.lt g hg2).2 (fun e=>h.dj g hg2 e.symm)),hown,fun b hb hb2=>?_,fun b hb h1 h2=>?_,h.fL,?_,by omega,hg.os.trans h.os,hg.tape.trans h.tape,hg.output.trans h.output⟩
 ·rcases hloc with e | e
  ·exact h.dj b hb (e ▸ hb2)
  rw[e] at hb2;have:=zO hb2;have:=(h.L.lt b hb).2;omega
 ·refine(hg.block b (by omega) (fun e=>?_)).trans (h.keep b hb h1 h2);rcases h.fR with e2 | ⟨g,e2,hge⟩
  ·exact h2 (e2 ▸ e.symm)
  rw[e2] at e;have:=zO e;omega
 rcases hloc with e | e
 ·rw[e];exact h.fR
 exact .inr ⟨_,e,hsz⟩
def Ext(W:World)(vL vR:Value)(g:Nat)(o:Obj):Prop:=W.heap[g]?=some o∧vL.ownBlock≠some g∧vR.ownBlock≠some g
theorem Ext.new{w3 wr W:World}{vL0 vR0 vL vR:Value}{nL nR:Nat}{xL xR:List Value}(h:Mid w3 wr vL0 vR0 W vL nL xL vR nR xR)(cur:Array Value)(t:TypeId):Ext (W.alloc (.cells cur t)) vL vR W.heap.size (.cells cur t (0,0)) :=
 ⟨zW _ _,fun e=>by have:=(h.L.lt _ e).2;omega,fun e=>by have:=(h.R.lt _ e).2;omega⟩
theorem Ext.alloc{W:World}{vL vR:Value}{g:Nat}{o:Obj}(h:Ext W vL vR g o)(o':Obj):Ext (W.alloc o') vL vR g o:=⟨(zA _ _ _ (zL h.1)).trans h.1,h.2⟩
theorem Ext.appL{W w':World}{vL vR v':Value}{g:Nat}{o:Obj}(h:Ext W vL vR g o)(hg:W.grownBy w' vL.ownBlock)(hloc:v'.ownBlock=vL.ownBlock∨v'.ownBlock=some W.heap.size):Ext w' v' vR g o:=by
 have hl:=zL h.1;refine⟨(hg.block g hl (fun e=>h.2.1 e.symm)).trans h.1,fun e=>?_,h.2.2⟩;rcases hloc with e2 | e2
 ·exact h.2.1 (e2 ▸ e)
 rw[e2] at e;have:=zO e;omega
theorem Ext.cells{W:World}{vL vR:Value}{g:Nat}{xs:List Value}{t:TypeId}(h:Ext W vL vR g (.cells xs.toArray t (0,0)))(j:Nat)(u:Value)(hj:xs[j]?=some u):W.cell? ((⟨g,0,none⟩:Addr).add j)=some u:=by
 rw[ocell_add,zC h.1];simpa using hj
structure As1(w w3:World)(T Qb:Nat)(rel:Int)(A0:Option Addr)(nk c0:Nat)(ks:List Int)(k:Nat)(ts us:List Raw)(AL:Option Addr)(cl:Nat)(AR:Option Addr)(cr:Nat)(W:World):Prop where
 blk:W.heap[Qb]?=some (.cells #[.slice none 0 0,.int .i64 rel,.int .i64 0,.int .i64 0,.slice none 0 0,.int .i64 0,.int .i64 0,.slice none 0 0,.slice AL k cl,.slice AR k cr,.slice A0 nk c0] 29 (0,0))
 lt:ts.length=k
 lu:us.length=k
 rows:∃xL xR,W.ownsRow w3.heap.size 51 4 (.slice AL k cl) k xL∧W.ownsRow w3.heap.size 51 4 (.slice AR k cr) k xR∧RowP (fun b=>w3.heap.size≤b∧(Value.slice AL k cl).ownBlock≠some b∧(Value.slice AR k cr).ownBlock≠some b) W ts xL∧RowP (fun b=>w3.heap.size≤b∧(Value.slice AL k cl).ownBlock≠some b∧(Value.slice AR k cr).ownBlock≠some b) W us xR
 dj:∀b,(Value.slice AL k cl).ownBlock=some b→(Value.slice AR k cr).ownBlock≠some b
 ks:IntsP (fun b=>w.heap.size<b∧b<w3.heap.size∧b≠Qb) W A0 ks
 tape:TapeI T W
 oth:Oth T w W
 size:w3.heap.size≤W.heap.size
 zt:∀t∈ts,t.size≤40
 zu:∀t∈us,good t
 res:W.heap[w.heap.size]?=some (.cells #[.slice none 0 0,.int .i64 0,.int .i64 0,.int .i64 0,.slice none 0 0,.int .i64 0,.int .i64 0,.slice none 0 0,.slice none 0 0,.slice none 0 0,.slice none 0 0] 29 (0,0))
theorem As1.othT{w w3 W W':World}{T Qb nk c0 k cl cr:Nat}{rel:Int}{A0 AL AR:Option Addr}{ks:List Int}{ts us:List Raw}(h:As1 w w3 T Qb rel A0 nk c0 ks k ts us AL cl AR cr W)(hT:T<w.heap.size)(hQ:w.heap.size<Qb)(hQ3:Qb<w3.heap.size)(ho:Oth T W W')(ht:TapeI T W'):As1 w w3 T Qb rel A0 nk c0 ks k ts us AL cl AR cr W':=by
 obtain⟨xL,xR,h1,h2,h3,h4⟩:=h.rows;have hk:∀b,w3.heap.size≤b→b<W.heap.size→W'.heap[b]?=W.heap[b]?:=fun b hb hlt=>ho.block b hlt (fun e=>by have:=zO e;omega);exact⟨ho.heap h.blk (by omega),h.lt,h.lu,⟨xL,xR,ownsRow_keep h1 (fun g hg=>hk g (h1.lt g hg).1 (h1.lt g hg).2),ownsRow_keep h2 (fun g hg=>hk g (h2.lt g hg).1 (h2.lt g hg).2),h3.keep (fun b hb hlt=>hk b hb.1 hlt) ho.size (fun _ _ h=>h),h4.keep (fun b hb hlt=>hk b hb.1 hlt) ho.size (fun _ _ h=>h)⟩,h.dj,
  h.ks.keep (fun b hb hlt=>ho.block b hlt (fun e=>by have:=zO e;omega)) ho.size (fun _ _ h=>h),ht,h.oth.trans ho,zR h.size ho.size,h.zt,h.zu,ho.heap h.res (by omega)⟩
theorem As1.below{w w3 W W':World}{T Qb nk c0 k cl cr:Nat}{rel:Int}{A0 AL AR:Option Addr}{ks:List Int}{ts us:List Raw}(h:As1 w w3 T Qb rel A0 nk c0 ks k ts us AL cl AR cr W)(hT:T<w.heap.size)(hQ:w.heap.size<Qb)(hQ3:Qb<w3.heap.size)(hb:Below W.heap.size W W'):As1 w w3 T Qb rel A0 nk c0 ks k ts us AL cl AR cr W' :=
 h.othT hT hQ hQ3 (zE hb) (h.tape.below hb)
theorem As1.push{w w3 wr W W':World}{T Qb nk c0 k cl cr:Nat}{rel:Int}{A0 AL AR AL' AR':Option Addr}{cl' cr':Nat}{ks:List Int}{ts us:List Raw}{x u:Raw}{x0 x1 x2 x3 u0 u1 u2 u3:Value}{xL xR:List Value}(h:As1 w w3 T Qb rel A0 nk c0 ks k ts us AL cl AR cr wr)(hT:T<w.heap.size)(hQ:w.heap.size<Qb)(hQ3:Qb<w3.heap.size)
  (hrL:RowP (fun b=>w3.heap.size≤b∧(Value.slice AL k cl).ownBlock≠some b∧(Value.slice AR k cr).ownBlock≠some b) wr ts xL) (hrR:RowP (fun b=>w3.heap.size≤b∧(Value.slice AL k cl).ownBlock≠some b∧(Value.slice AR k cr).ownBlock≠some b) wr us xR)
  (hx:TreeP (fun b=>w3.heap.size≤b∧(Value.slice AL k cl).ownBlock≠some b∧(Value.slice AR k cr).ownBlock≠some b) wr x x0 x1 x2 x3) (hu:TreeP (fun b=>w3.heap.size≤b∧(Value.slice AL k cl).ownBlock≠some b∧(Value.slice AR k cr).ownBlock≠some b) wr u u0 u1 u2 u3) (hzx:x.size≤40) (hzu:good u)
  (hM:Mid w3 wr (.slice AL k cl) (.slice AR k cr) W (.slice AL' (k+1) cl') (k+1) (xL++[x0,x1,x2,x3]) (.slice AR' (k+1) cr') (k+1) (xR++[u0,u1,u2,u3])) (ho:Oth Qb W W') (hblk:W'.heap[Qb]?=some (.cells #[.slice none 0 0,.int .i64 rel,.int .i64 0,.int .i64 0,.slice none 0 0,.int .i64 0,.int .i64 0,.slice none 0 0,.slice AL' (k+1) cl',.slice AR' (k+1) cr',.slice A0 nk c0] 29 (0,0))) :
  As1 w w3 T Qb rel A0 nk c0 ks (k+1) (ts++[x]) (us++[u]) AL' cl' AR' cr' W':=by
 have hsr:=h.size;have hsM:=hM.size;have hso:=ho.size;have hw:=h.oth.size;have hnb:∀b,b<w3.heap.size→(Value.slice AL k cl).ownBlock≠some b∧(Value.slice AR k cr).ownBlock≠some b:=fun b hb=>by
  obtain⟨xL,xR,h1,h2,_⟩:=h.rows;exact⟨fun e=>by have:=(h1.lt b e).1;omega,fun e=>by have:=(h2.lt b e).1;omega⟩
 have hold:∀b,b<w3.heap.size→b≠Qb→W'.heap[b]?=wr.heap[b]?:=fun b hb hne=>(ho.block b (by omega) (fun e=>hne (zO e))).trans (hM.keep b (by omega) (hnb b hb).1 (hnb b hb).2);have hq:∀b,b<wr.heap.size→(w3.heap.size≤b∧(Value.slice AL k cl).ownBlock≠some b∧(Value.slice AR k cr).ownBlock≠some b)→(w3.heap.size≤b∧(Value.slice AL' (k+1) cl').ownBlock≠some b∧(Value.slice AR' (k+1) cr').ownBlock≠some b):=fun b hlt hb=>⟨hb.1,fun e=>by
  rcases hM.fL with e2 | ⟨g,e2,hge⟩
  ·exact hb.2.1 (e2 ▸ e)
  ·rw[e2] at e;have:=zO e;omega,fun e=>by
  rcases hM.fR with e2 | ⟨g,e2,hge⟩
  ·exact hb.2.2 (e2 ▸ e)
  rw[e2] at e;have:=zO e;omega⟩
 have hkeep:∀b,(w3.heap.size≤b∧(Value.slice AL k cl).ownBlock≠some b∧(Value.slice AR k cr).ownBlock≠some b)→b<wr.heap.size→W'.heap[b]?=wr.heap[b]?:=fun b hb hlt=>(ho.block b (by omega) (fun e=>by have:=zO e;omega)).trans (hM.keep b hlt hb.2.1 hb.2.2);have hrow:∀{v:Value}{n:Nat}{xs:List Value},W.ownsRow w3.heap.size 51 4 v n xs→W'.ownsRow w3.heap.size 51 4 v n xs:=fun hr=>ownsRow_keep hr (fun g hg=>ho.block g (hr.lt g hg).2 (fun e=>by have:=zO e;have:=(hr.lt g hg).1;omega));refine⟨hblk,by rw[Zq,h.lt];rfl,by rw[Zq,h.lu];rfl,⟨_,_,hrow hM.L,hrow hM.R,RowP.append (RowP.one (TreeP.keep hkeep (by omega) hq _ _ _ _ _ hx)) (hrL.keep hkeep (by omega) hq),RowP.append (RowP.one (TreeP.keep hkeep (by omega) hq _ _ _ _ _ hu)) (hrR.keep hkeep (by omega) hq)⟩,hM.dj,
  h.ks.keep (fun b hb hlt=>hold b hb.2.1 hb.2.2) (by omega) (fun _ _ h=>h),h.tape.like (fun b hb=>hold b (by omega) (by omega)),?_,by omega,fun t ht=>?_,fun t ht=>?_,(hold _ (by omega) (by omega)).trans h.res⟩
 ·exact⟨ho.os.trans (hM.os.trans h.oth.os),ho.tape.trans (hM.tape.trans h.oth.tape),ho.output.trans (hM.output.trans h.oth.output),by omega,fun b hb hn=>(hold b (by omega) (by omega)).trans (h.oth.block b hb hn)⟩
 ·rcases List.mem_append.1 ht with h1 | h1
  ·exact h.zt t h1
  rw[List.mem_singleton] at h1;subst h1;exact hzx
 rcases List.mem_append.1 ht with h1 | h1
 ·exact h.zu t h1
 rw[List.mem_singleton] at h1;subst h1;exact hzu
end Go.Proofs.YtadjpadieljjlaaGreat
namespace Lfc
theorem firstE_zero:∀l:List Raw,firstE l=0↔∀t∈l,t.twf=0
 |[]=>by simp[firstE]
 |t :: r=>by
  rw[firstE];by_cases h:t.twf=0
  ·rw[if_pos h,firstE_zero r];simp[h]
  rw[if_neg h];simp[h]
theorem allO_true:∀l:List Raw,allO l=true↔∀t∈l,t.isO=true
 |[]=>by simp[allO]
 |t :: r=>by simp[allO,allO_true r]
theorem chkF_all{fs:List Fact}{o p:Ord}{ts us:List Raw}:chkF fs o p ts us=0↔(∀t∈flat fs++ts++us,t.twf=0∧t.isO=true)∧(o.vld ts.length=0∧p.vld us.length=0∧o.shp p=true):=by
 have e1:=firstE_zero (flat fs++ts++us);have e2:=allO_true (flat fs++ts++us);unfold chkF;by_cases h1:firstE (flat fs++ts++us)=0
 ·rw[if_neg (by simpa using h1)];have a1:=e1.1 h1;cases h2:allO (flat fs++ts++us) with
  |false =>
   rw[if_pos rfl];refine⟨fun h=>absurd h (by decide),fun h=>?_⟩;rw[e2.2 (fun t ht=>(h.1 t ht).2)] at h2;cases h2
  |true =>
   have a2:=e2.1 h2;rw[if_neg (by decide)];have a3:∀t∈flat fs++ts++us,t.twf=0∧t.isO=true:=fun t ht=>⟨a1 t ht,a2 t ht⟩;by_cases h3:o.vld ts.length=0
   ·rw[if_neg (by simpa using h3)];by_cases h4:p.vld us.length=0
    ·rw[if_neg (by simpa using h4)];cases h5:o.shp p with
     |false=>rw[if_pos rfl];exact⟨fun h=>absurd h (by decide),fun h=>by cases h.2.2.2⟩
     |true=>rw[if_neg (by decide)];exact⟨fun _=>⟨a3,h3,h4,rfl⟩,fun _=>rfl⟩
    rw[if_pos h4];exact⟨fun h=>absurd h h4,fun h=>absurd h.2.2.1 h4⟩
   rw[if_pos h3];exact⟨fun h=>absurd h h3,fun h=>absurd h.2.1 h3⟩
 rw[if_pos h1];exact⟨fun h=>absurd h h1,fun h=>absurd (e1.2 (fun t ht=>(h.1 t ht).1)) h1⟩
theorem chn_21{ks:List Int}{fs:List Fact}{ts us:List Raw}(i j:Nat):chF ks fs ts us 2 i j→chF ks fs ts us 1 i j:=fun h=>chn_less (by decide) h
end Lfc
namespace Lfc
def subN(ks:List Int)(f:Nat→Int)(cr:Nat)(k:Int)(n n':List UInt8)(p p' d:Int):Prop :=
  if k=4 then n=n'
  else if k=5 then
    (if p-d<0 then p=p'
     else if p-d<(cr:Int) then(0≤p'-d∧kindOf ks (p'-d)=2∧f (p-d).toNat=p'-d)
     else p'=p-(cr:Int))
  else if k=6 then p=p'
  else True
mutual
def sub(ks:List Int)(f:Nat→Int)(cr:Nat):Raw→Raw→Int→Prop
  |.node k n p xs,.node k' n' p' ys,d=>k=k'∧subN ks f cr k n n' p p' d∧subs ks f cr xs ys (if k=3 then d+1 else d)
def subs(ks:List Int)(f:Nat→Int)(cr:Nat):List Raw→List Raw→Int→Prop
  |[],[],_=>True
  |a :: r,b :: q,d=>sub ks f cr a b d∧subs ks f cr r q d
  |[],_ :: _,_=>False
  |_ :: _,[],_=>False
end
def agr(f:Nat→Int)(cr:Nat)(tv:List Int):Prop:=tv.length=cr∧∀i,i<cr→tv.getD i 0<0∨tv.getD i 0=f i
theorem getD_set{tv:List Int}{i j:Nat}{x:Int}(h:i<tv.length):(tv.set i x).getD j 0=if i=j then x else tv.getD j 0:=by
  simp only[List.getD_eq_getElem?_getD,List.getElem?_set];by_cases e:i=j
  · subst e;simp[h]
  simp[e]
theorem step_sub{ks:List Int}{cr:Nat}{k p p' d:Int}{n n':List UInt8}{tv tv':List Int}(hl:tv.length=cr)(h:stStep ks cr k n n' p p' d tv=some tv'):(tv'.length=cr∧∀i,i<cr→0≤tv.getD i 0→tv'.getD i 0=tv.getD i 0)∧(∀f:Nat→Int,(∀i,i<cr→0≤tv'.getD i 0→f i=tv'.getD i 0)→subN ks f cr k n n' p p' d):=by
  unfold stStep at h;unfold subN;by_cases h4:k=4
  · simp only[h4,if_true] at h ⊢
    split at h
    · cases h;exact⟨⟨hl,fun _ _ _=>rfl⟩,fun _ _=>by assumption⟩
    cases h
  simp only[h4,if_false] at h ⊢;by_cases h5:k=5
  · simp only[h5,if_true] at h ⊢
    by_cases a1:p-d<0
    · simp only[a1,if_true] at h ⊢
      split at h
      · cases h;exact⟨⟨hl,fun _ _ _=>rfl⟩,fun _ _=>by assumption⟩
      cases h
    simp only[a1,if_false] at h ⊢;by_cases a2:p-d<(cr:Int)
    · simp only[a2,if_true] at h ⊢
      split at h
      · cases h
      rename_i hn;cases h;have hi:(p-d).toNat<tv.length:=(by omega);have b1:0≤p'-d:=Classical.byContradiction fun e=>hn (.inl (by omega));have b2:kindOf ks (p'-d)=2:=Classical.byContradiction fun e=>hn (.inr (.inl e));refine⟨⟨by rw[List.length_set];exact hl,fun i hic h0=>?_⟩,fun f hf=>⟨b1,b2,?_⟩⟩
      · rw[getD_set hi]
        split
        · rename_i e
          subst e;exact Classical.byContradiction fun e=>hn (.inr (.inr ⟨h0,fun e2=>e e2.symm⟩))
        rfl
      have:=hf (p-d).toNat (by omega) (by rw[getD_set hi,if_pos rfl];exact b1);rw[getD_set hi,if_pos rfl] at this;exact this
    simp only[a2,if_false] at h ⊢;split at h
    · cases h;exact⟨⟨hl,fun _ _ _=>rfl⟩,fun _ _=>by assumption⟩
    cases h
  simp only[h5,if_false] at h ⊢;by_cases h6:k=6
  · simp only[h6,if_true] at h ⊢
    split at h
    · cases h;exact⟨⟨hl,fun _ _ _=>rfl⟩,fun _ _=>by assumption⟩
    cases h
  simp only[h6,if_false] at h ⊢;cases h;exact⟨⟨hl,fun _ _ _=>rfl⟩,fun _ _=>trivial⟩
mutual
theorem st_sub{ks:List Int}{cr:Nat}:∀(s t:Raw)(d:Int)(tv tv':List Int),tv.length=cr→Raw.st ks cr s t d tv=some tv'→(tv'.length=cr∧∀i,i<cr→0≤tv.getD i 0→tv'.getD i 0=tv.getD i 0)∧(∀f:Nat→Int,(∀i,i<cr→0≤tv'.getD i 0→f i=tv'.getD i 0)→sub ks f cr s t d)
  |.node k n p xs,.node k' n' p' ys,d,tv,tv',hl,h=>by
    rw[Raw.st] at h;by_cases hc:k≠k'∨xs.length≠ys.length
    · rw[if_pos hc] at h;cases h
    rw[if_neg hc] at h;have hk:k=k':=Classical.byContradiction fun e=>hc (.inl e);have hxy:xs.length=ys.length:=Classical.byContradiction fun e=>hc (.inr e);cases hs:stStep ks cr k n n' p p' d tv with
    |none=>rw[hs] at h;cases h
    |some tv1 =>
      rw[hs] at h;obtain⟨⟨l1,k1⟩,s1⟩:=step_sub hl hs;obtain⟨⟨l2,k2⟩,s2⟩:=sts_sub xs ys _ tv1 tv' l1 hxy h;refine⟨⟨l2,fun i hi h0=>?_⟩,fun f hf=>?_⟩
      · have e:=k1 i hi h0
        rw[←e];exact k2 i hi (by rw[e];exact h0)
      rw[sub];refine⟨hk,s1 f (fun i hi h0=>?_),s2 f hf⟩;have e:=k2 i hi h0;rw[←e];exact hf i hi (by rw[e];exact h0)
theorem sts_sub{ks:List Int}{cr:Nat}:∀(xs ys:List Raw)(d:Int)(tv tv':List Int),tv.length=cr→xs.length=ys.length→Raw.sts ks cr xs ys d tv=some tv'→(tv'.length=cr∧∀i,i<cr→0≤tv.getD i 0→tv'.getD i 0=tv.getD i 0)∧(∀f:Nat→Int,(∀i,i<cr→0≤tv'.getD i 0→f i=tv'.getD i 0)→subs ks f cr xs ys d)
  |[],[],d,tv,tv',hl,_,h=>by
    have h:some tv=some tv':=(by simpa[Raw.sts] using h);cases h;exact⟨⟨hl,fun _ _ _=>rfl⟩,fun _ _=>by rw[subs];trivial⟩
  |[],_ :: _,_,_,_,_,hxy,_=>by simp at hxy
  |_ :: _,[],_,_,_,_,hxy,_=>by simp at hxy
  |a :: r,b :: q,d,tv,tv',hl,hxy,h=>by
    rw[Raw.sts] at h;cases hs:Raw.st ks cr a b d tv with
    |none=>rw[hs] at h;cases h
    |some tv1 =>
      rw[hs] at h;obtain⟨⟨l1,k1⟩,s1⟩:=st_sub a b d tv tv1 hl hs;obtain⟨⟨l2,k2⟩,s2⟩:=sts_sub r q d tv1 tv' l1 (by simpa using hxy) h;refine⟨⟨l2,fun i hi h0=>?_⟩,fun f hf=>?_⟩
      · have e:=k1 i hi h0
        rw[←e];exact k2 i hi (by rw[e];exact h0)
      rw[subs];refine⟨s1 f (fun i hi h0=>?_),s2 f hf⟩;have e:=k2 i hi h0;rw[←e];exact hf i hi (by rw[e];exact h0)
end
theorem sub_step{ks:List Int}{f:Nat→Int}{cr:Nat}{k p p' d:Int}{n n':List UInt8}{tv:List Int}(ha:agr f cr tv)(h:subN ks f cr k n n' p p' d):∃tv',stStep ks cr k n n' p p' d tv=some tv'∧agr f cr tv':=by
  unfold subN at h;unfold stStep;by_cases h4:k=4
  · simp only[h4,if_true] at h ⊢
    exact⟨tv,by rw[if_pos h],ha⟩
  simp only[h4,if_false] at h ⊢;by_cases h5:k=5
  · simp only[h5,if_true] at h ⊢
    by_cases a1:p-d<0
    · simp only[a1,if_true] at h ⊢
      exact⟨tv,by rw[if_pos h],ha⟩
    simp only[a1,if_false] at h ⊢;by_cases a2:p-d<(cr:Int)
    · simp only[a2,if_true] at h ⊢
      have hi:(p-d).toNat<tv.length:=(by have:=ha.1;omega);have hi':(p-d).toNat<cr:=(by omega);refine⟨_,if_neg ?_,by rw[List.length_set];exact ha.1,fun i hic=>?_⟩
      · rintro (e | e | ⟨e,e2⟩)
        · omega
        · exact e h.2.1
        rcases ha.2 _ hi' with e3 | e3
        · omega
        exact e2 (e3.trans h.2.2)
      rw[getD_set hi];split
      · rename_i e
        subst e;exact .inr h.2.2.symm
      exact ha.2 i hic
    simp only[a2,if_false] at h ⊢;exact⟨tv,by rw[if_pos h],ha⟩
  simp only[h5,if_false] at h ⊢;by_cases h6:k=6
  · simp only[h6,if_true] at h ⊢
    exact⟨tv,by rw[if_pos h],ha⟩
  simp only[h6,if_false] at h ⊢;exact⟨tv,rfl,ha⟩
theorem subs_len{ks:List Int}{f:Nat→Int}{cr:Nat}:∀(xs ys:List Raw)(d:Int),subs ks f cr xs ys d→xs.length=ys.length
  |[],[],_,_=>rfl
  |[],_ :: _,_,h=>by rw[subs] at h;exact h.elim
  |_ :: _,[],_,h=>by rw[subs] at h;exact h.elim
  |a :: r,b :: q,d,h=>by rw[subs] at h;simp[subs_len r q d h.2]
mutual
theorem sub_st{ks:List Int}{f:Nat→Int}{cr:Nat}:∀(s t:Raw)(d:Int)(tv:List Int),agr f cr tv→sub ks f cr s t d→∃tv',Raw.st ks cr s t d tv=some tv'∧agr f cr tv'
  |.node k n p xs,.node k' n' p' ys,d,tv,ha,h=>by
    rw[sub] at h;obtain⟨hk,hn,hs⟩:=h;obtain⟨tv1,e1,a1⟩:=sub_step ha hn;obtain⟨tv2,e2,a2⟩:=subs_st xs ys _ tv1 a1 hs;refine⟨tv2,?_,a2⟩;rw[Raw.st,if_neg (by rintro (e | e);exact e hk;exact e (subs_len xs ys _ hs)),e1];exact e2
theorem subs_st{ks:List Int}{f:Nat→Int}{cr:Nat}:∀(xs ys:List Raw)(d:Int)(tv:List Int),agr f cr tv→subs ks f cr xs ys d→∃tv',Raw.sts ks cr xs ys d tv=some tv'∧agr f cr tv'
  |[],[],_,tv,ha,_=>⟨tv,by simp[Raw.sts],ha⟩
  |[],_ :: _,_,_,_,h=>by rw[subs] at h;exact h.elim
  |_ :: _,[],_,_,_,h=>by rw[subs] at h;exact h.elim
  |a :: r,b :: q,d,tv,ha,h=>by
    rw[subs] at h;obtain⟨tv1,e1,a1⟩:=sub_st a b d tv ha h.1;obtain⟨tv2,e2,a2⟩:=subs_st r q d tv1 a1 h.2;exact⟨tv2,by rw[Raw.sts,e1];exact e2,a2⟩
end
theorem stands_iff{ks:List Int}{cr:Nat}{s t:Raw}:Raw.stands ks cr s t=true↔∃f,sub ks f cr s t 0:=by
  unfold Raw.stands;constructor
  · intro h
    obtain⟨tv',e⟩:=Option.isSome_iff_exists.1 h;exact⟨fun i=>tv'.getD i 0,(st_sub s t 0 _ tv' (by simp) e).2 _ (fun i _ _=>rfl)⟩
  rintro⟨f,h⟩;obtain⟨tv',e,_⟩:=sub_st s t 0 (List.replicate cr (-1)) ⟨by simp,fun i hi=>.inl (by simp[List.getD_eq_getElem?_getD,hi])⟩ h;rw[e];rfl
mutual
theorem sub_comp{ks:List Int}{f f':Nat→Int}{cr cr':Nat}:∀(a s t:Raw)(d:Int),0≤d→sub ks f' cr' a s ((cr:Int)+d)→sub ks f cr s t d→sub ks (fun i=>if i<cr then f i else f' (i-cr)) (cr'+cr) a t d
  |.node k n p xs,.node k1 n1 p1 ys,.node k2 n2 p2 zs,d,hd,h,h'=>by
    rw[sub] at h h' ⊢;obtain⟨rfl,a1,b1⟩:=h;obtain⟨rfl,a2,b2⟩:=h';refine⟨rfl,?_,?_⟩
    · unfold subN at a1 a2 ⊢
      by_cases h4:k=4
      · simp only[h4,if_true] at a1 a2 ⊢;exact a1.trans a2
      simp only[h4,if_false] at a1 a2 ⊢;by_cases h5:k=5
      · simp only[h5,if_true] at a1 a2 ⊢
        by_cases c1:p-((cr:Int)+d)<0
        · simp only[c1,if_true] at a1
          subst a1;by_cases c2:p-d<0
          · simp only[c2,if_true] at a2 ⊢;exact a2
          simp only[c2,if_false] at a2 ⊢;have c3:p-d<(cr:Int):=(by omega);have c4:p-d<((cr'+cr:Nat):Int):=(by omega);simp only[c3,c4,if_true] at a2 ⊢;refine⟨a2.1,a2.2.1,?_⟩;rw[if_pos (by omega)];exact a2.2.2
        simp only[c1,if_false] at a1;by_cases c2:p-((cr:Int)+d)<(cr':Int)
        · simp only[c2,if_true] at a1
          obtain⟨q1,q2,q3⟩:=a1;have d1:¬p1-d<0:=(by omega);have d2:¬p1-d<(cr:Int):=(by omega);simp only[d1,d2,if_false] at a2;have d3:¬p-d<0:=(by omega);have d4:p-d<((cr'+cr:Nat):Int):=(by omega);simp only[d3,d4,if_false,if_true];have e1:p2-d=p1-((cr:Int)+d):=(by omega);rw[e1];refine⟨q1,q2,?_⟩;rw[if_neg (by omega)];have e2:(p-d).toNat-cr=(p-((cr:Int)+d)).toNat:=(by omega);rw[e2];exact q3
        simp only[c2,if_false] at a1;have d1:¬p1-d<0:=(by omega);have d2:¬p1-d<(cr:Int):=(by omega);simp only[d1,d2,if_false] at a2;have d3:¬p-d<0:=(by omega);have d4:¬p-d<((cr'+cr:Nat):Int):=(by omega);simp only[d3,d4,if_false];omega
      simp only[h5,if_false] at a1 a2 ⊢;by_cases h6:k=6
      · simp only[h6,if_true] at a1 a2 ⊢;exact a1.trans a2
      simp only[h6,if_false]
    by_cases h3:k=3
    · simp only[h3,if_true] at b1 b2 ⊢
      exact subs_comp xs ys zs (d+1) (by omega) (by rw[show(cr:Int)+(d+1)=(cr:Int)+d+1 by omega];exact b1) b2
    simp only[h3,if_false] at b1 b2 ⊢;exact subs_comp xs ys zs d hd b1 b2
theorem subs_comp{ks:List Int}{f f':Nat→Int}{cr cr':Nat}:∀(xs ys zs:List Raw)(d:Int),0≤d→subs ks f' cr' xs ys ((cr:Int)+d)→subs ks f cr ys zs d→subs ks (fun i=>if i<cr then f i else f' (i-cr)) (cr'+cr) xs zs d
  |[],[],[],_,_,_,_=>by rw[subs];trivial
  |[],[],_ :: _,_,_,_,h=>by rw[subs] at h;exact h.elim
  |[],_ :: _,_,_,_,h,_=>by rw[subs] at h;exact h.elim
  |_ :: _,[],_,_,_,h,_=>by rw[subs] at h;exact h.elim
  |_ :: _,_ :: _,[],_,_,_,h=>by rw[subs] at h;exact h.elim
  |a :: r,b :: q,c :: z,d,hd,h,h'=>by
    rw[subs] at h h' ⊢;exact⟨sub_comp a b c d hd h.1 h'.1,subs_comp r q z d hd h.2 h'.2⟩
end
mutual
def occ(ks:List Int)(t:Raw):Raw→Nat→Prop
  |.node k n p xs,cr=>Raw.stands ks cr (.node k n p xs) t=true∨(Raw.pas ks cr (.node k n p xs)=true∧occs ks t xs (if k=3 then cr+1 else cr))
def occs(ks:List Int)(t:Raw):List Raw→Nat→Prop
  |[],_=>False
  |a :: r,cr=>occ ks t a cr∨occs ks t r cr
end
mutual
theorem pth_occ{ks:List Int}{t:Raw}:∀(s:Raw)(cr:Nat),(Raw.pth ks t s cr).isSome=true↔occ ks t s cr
  |.node k n p xs,cr=>by
    rw[Raw.pth,occ];by_cases h1:Raw.stands ks cr (.node k n p xs) t=true
    · simp[h1]
    rw[if_neg h1];cases h2:Raw.pas ks cr (.node k n p xs) with
    |false=>simp[h1]
    |true =>
      have:=pths_occ (ks:=ks) (t:=t) xs (if k=3 then cr+1 else cr) 0;simp only[Bool.true_eq_false,if_false,this];simp[h1]
theorem pths_occ{ks:List Int}{t:Raw}:∀(xs:List Raw)(cr:Nat)(i:Int),(Raw.pths ks t xs cr i).isSome=true↔occs ks t xs cr
  |[],_,_=>by rw[Raw.pths,occs];simp
  |a :: r,cr,i=>by
    have h1:=pth_occ (ks:=ks) (t:=t) a cr;have h2:=pths_occ (ks:=ks) (t:=t) r cr (i+1);rw[Raw.pths,occs];cases hp:Raw.pth ks t a cr with
    |some q=>rw[hp] at h1;simp at h1;simp[h1]
    |none=>rw[hp] at h1;simp at h1;simp only[h2];simp[h1]
end
mutual
theorem occ_sub{ks:List Int}{t:Raw}{f':Nat→Int}{c:Nat}:∀(a b:Raw)(e:Nat),sub ks f' c a b (e:Int)→occ ks t b e→occ ks t a (c+e)
  |.node k n p xs,.node k1 n1 p1 ys,e,h,ho=>by
    have hs:=h;rw[sub] at h;obtain⟨rfl,a1,b1⟩:=h;rw[occ] at ho ⊢;rcases ho with ho | ⟨hp,ho⟩
    · obtain⟨f,hf⟩:=stands_iff.1 ho
      exact .inl (stands_iff.2 ⟨_,sub_comp _ _ _ 0 (Int.le_refl _) (by rw[Int.add_zero];exact hs) hf⟩)
    refine .inr ⟨?_,?_⟩
    · rw[Raw.pas] at hp ⊢
      by_cases h34:k=3∨k=4
      · rw[if_pos h34]
      rw[if_neg h34] at hp ⊢;by_cases h5:k=5
      · rw[if_pos h5] at hp ⊢
        unfold subN at a1;have h4:¬k=4:=fun e=>h34 (.inr e);rw[if_neg h4,if_pos h5] at a1;simp only[Bool.or_eq_true,decide_eq_true_eq] at hp ⊢;by_cases c1:p-(e:Int)<0
        · exact .inl (by omega)
        rw[if_neg c1] at a1;by_cases c2:p-(e:Int)<(c:Int)
        · exact .inl (by omega)
        rw[if_neg c2] at a1;rcases hp with hp | hp
        · exact .inl (by omega)
        refine .inr ?_;rw[show p-((c+e:Nat):Int)=p1-(e:Int) by omega];exact hp
      rw[if_neg h5] at hp;cases hp
    by_cases h3:k=3
    · simp only[h3,if_true] at b1 ho ⊢
      exact occs_sub xs ys (e+1) (by rw[show((e+1:Nat):Int)=(e:Int)+1 by omega];exact b1) ho
    simp only[h3,if_false] at b1 ho ⊢;exact occs_sub xs ys e b1 ho
theorem occs_sub{ks:List Int}{t:Raw}{f':Nat→Int}{c:Nat}:∀(xs ys:List Raw)(e:Nat),subs ks f' c xs ys (e:Int)→occs ks t ys e→occs ks t xs (c+e)
  |[],[],_,_,h=>by rw[occs] at h;exact h.elim
  |[],_ :: _,_,h,_=>by rw[subs] at h;exact h.elim
  |_ :: _,[],_,h,_=>by rw[subs] at h;exact h.elim
  |a :: r,b :: q,e,h,ho=>by
    rw[subs] at h;rw[occs] at ho ⊢;exact ho.imp (occ_sub a b e h.1) (occs_sub r q e h.2)
end
mutual
theorem occ_trans{ks:List Int}{t u:Raw}(h0:occ ks t u 0):∀(v:Raw)(c:Nat),occ ks u v c→occ ks t v c
  |.node k n p xs,c,h=>by
    have h':=h;rw[occ] at h;rcases h with h | ⟨hp,h⟩
    · obtain⟨f,hf⟩:=stands_iff.1 h
      have:=occ_sub (t:=t) _ u 0 hf h0;exact this
    rw[occ];exact .inr ⟨hp,occs_trans h0 xs _ h⟩
theorem occs_trans{ks:List Int}{t u:Raw}(h0:occ ks t u 0):∀(xs:List Raw)(c:Nat),occs ks u xs c→occs ks t xs c
  |[],_,h=>by rw[occs] at h;exact h.elim
  |a :: r,c,h=>by
    rw[occs] at h ⊢;exact h.imp (occ_trans h0 a c) (occs_trans h0 r c)
end
theorem upS_pos{ks:List Int}{t u:Raw}:0<upS ks t u↔(t.isO=true∧u.isO=true)∧occ ks t u 0:=by
  rw[upS,Raw.up,Raw.path];have h1:=pth_occ (ks:=ks) (t:=t) u 0;by_cases h:(t.isO && u.isO)=true
  · rw[if_pos h]
    rw[Bool.and_eq_true] at h;cases hp:Raw.pth ks t u 0 with
    |none =>
      rw[hp] at h1;simp only[upOf];refine⟨fun h=>absurd h (by decide),fun h=>?_⟩;have:=h1.2 h.2;cases this
    |some q =>
      rw[hp] at h1;have h2:=h1.1 rfl;cases q with
      |nil=>simp only[upOf];exact⟨fun _=>⟨h,h2⟩,fun _=>by decide⟩
      |cons i r=>simp only[upOf];exact⟨fun _=>⟨h,h2⟩,fun _=>by decide⟩
  rw[if_neg h];simp only[upOf];rw[Bool.and_eq_true] at h;exact⟨fun h=>absurd h (by decide),fun h'=>absurd h'.1 h⟩
theorem upS_eq{ks:List Int}{t u:Raw}(h:upS ks t u=1):t.size=u.size:=by
  rw[upS,Raw.up] at h;cases hp:Raw.path ks t u with
  |none=>rw[hp] at h;simp[upOf] at h
  |some q =>
    rw[hp] at h;cases q with
    |cons i r=>simp[upOf] at h
    |nil =>
      rw[Raw.path] at hp;split at hp
      · rcases pth_size ks t u 0 [] hp with⟨_,_,h2⟩ | ⟨h1,h2⟩
        · omega
        first | omega | (simp at h1)
      cases hp
theorem upS_trans{ks:List Int}{t u v:Raw}(h1:0<upS ks t u)(h2:0<upS ks u v):upS ks t u≤upS ks t v∧upS ks u v≤upS ks t v∧0<upS ks t v:=by
  have p1:=upS_pos.1 h1;have p2:=upS_pos.1 h2;have h3:0<upS ks t v:=upS_pos.2 ⟨⟨p1.1.1,p2.1.2⟩,occ_trans p1.2 v 0 p2.2⟩;have r1:=upS_range ks t u;have r2:=upS_range ks u v;have r3:=upS_range ks t v;have a1:=upS_one (ks:=ks) (t:=t) (u:=u) (by omega);have a2:=upS_one (ks:=ks) (t:=u) (u:=v) (by omega);rcases r3 with r3 | r3 | r3
  · omega
  · have e:=upS_eq r3
    rcases r1 with r1 | r1 | r1
    · omega
    · rcases r2 with r2 | r2 | r2
      · omega
      · omega
      have:=upS_two (ks:=ks) (t:=u) (u:=v) (by omega);omega
    have:=upS_two (ks:=ks) (t:=t) (u:=u) (by omega);omega
  omega
theorem stp_ge{ks:List Int}{fs:List Fact}{i j:Nat}:upS ks (sd fs i) (sd fs j)≤stp ks fs i j:=by
  have:=upS_range ks (sd fs i) (sd fs j);unfold stp;repeat' split
  all_goals omega
theorem Rch.ahead{ks:List Int}{fs:List Fact}{l r:Raw}{i:Nat}{s:Int}(hl:0<upS ks l r)(h:Rch ks fs r i s):∃s',Rch ks fs l i s'∧upS ks l r≤s'∧s≤s':=by
  induction h with
  |start i hi h =>
    obtain⟨a,b,c⟩:=upS_trans hl h;exact⟨_,.start i hi c,a,b⟩
  |step i j s h hj hne hs ih =>
    obtain⟨s',h',a,b⟩:=ih;exact⟨_,.step i j s' h' hj hne hs,by omega,by omega⟩
theorem Rch.behind{ks:List Int}{fs:List Fact}{l r:Raw}{i j:Nat}{s s2:Int}(h:Rch ks fs l i s)(hr:0<upS ks (sd fs i) r)(h2:Rch ks fs r j s2):∃s',Rch ks fs l j s'∧upS ks (sd fs i) r≤s'∧s≤s'∧s2≤s':=by
  induction h2 with
  |start j hj hp =>
    obtain⟨a,b,c⟩:=upS_trans hr hp;by_cases e:j=i
    · subst e
      have hs:=h.range;have r1:=upS_range ks (sd fs j) r;have r2:=upS_range ks r (sd fs j);have z1:=upS_one (ks:=ks) (t:=sd fs j) (u:=r) (by omega);have z2:=upS_one (ks:=ks) (t:=r) (u:=sd fs j) (by omega);have y1:upS ks (sd fs j) r=1:=by
        rcases r1 with r1 | r1 | r1
        · omega
        · exact r1
        have:=upS_two (ks:=ks) (t:=sd fs j) (u:=r) (by omega);omega
      have y2:upS ks r (sd fs j)=1:=by
        rcases r2 with r2 | r2 | r2
        · omega
        · exact r2
        have:=upS_two (ks:=ks) (t:=r) (u:=sd fs j) (by omega);omega
      exact⟨s,h,by omega,by omega,by omega⟩
    have hg:=stp_ge (ks:=ks) (fs:=fs) (i:=i) (j:=j);exact⟨_,.step i j s h hj e (by omega),by omega,by omega,by omega⟩
  |step j j' s2 h2 hj hne hs ih =>
    obtain⟨s',h',a,b,c⟩:=ih;exact⟨_,.step j j' s' h' hj hne hs,by omega,by omega,by omega⟩
theorem chn_trans{ks:List Int}{fs:List Fact}{l r t:Raw}{m1 m2 m:Int}(h1:chn ks fs l r m1)(h2:chn ks fs r t m2)(p1:1≤m1)(p2:1≤m2)(hm:m≤m1∨m≤m2):chn ks fs l t m:=by
  rcases h1 with h1 | ⟨i,s,a1,a2,a3⟩
  · rcases h2 with h2 | ⟨j,s2,b1,b2,b3⟩
    · have:=upS_trans (ks:=ks) (t:=l) (u:=r) (v:=t) (by omega) (by omega)
      exact .inl (by omega)
    obtain⟨s',c1,c2,c3⟩:=b1.ahead (l:=l) (by omega);exact .inr ⟨j,s',c1,b2,by omega⟩
  rcases h2 with h2 | ⟨j,s2,b1,b2,b3⟩
  · have:=upS_trans (ks:=ks) (t:=sd fs i) (u:=r) (v:=t) a2 (by omega)
    exact .inr ⟨i,s,a1,this.2.2,by omega⟩
  obtain⟨s',c1,c2,c3,c4⟩:=a1.behind a2 b1;exact .inr ⟨j,s',c1,b2,by omega⟩
end Lfc
