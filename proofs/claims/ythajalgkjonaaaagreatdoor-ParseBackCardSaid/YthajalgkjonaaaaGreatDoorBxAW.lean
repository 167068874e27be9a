/- Parts of the proof that no input makes the law false: PaMo, PaMp, PaMode, PaOdF. -/
import Derived.Test.YthajalgkjonaaaaGreatDoorBxAV
set_option linter.unusedVariables false
set_option linter.unusedSimpArgs false
set_option maxRecDepth 100000
set_option maxHeartbeats 32000000
namespace Lfc
mutual
def Ord.gd:Ord→Bool
 |.node k a ps=>if k=1 then decide (1≤a) && decide (a≤64) && decide (ps.length=0) else(decide (k=2) || decide (k=3)) && decide (a=0) && decide (0<ps.length) && Ord.gds ps
def Ord.gds:List Ord→Bool
 |[]=>true
 |a :: r=>Ord.gd a && Ord.gds r
end
theorem gds_app(a b:List Ord):Ord.gds (a++b)=(Ord.gds a && Ord.gds b):=by
 induction a with
 |nil=>simp[Ord.gds]
 |cons x r ih=>simp only[List.cons_append,Ord.gds,ih,Bool.and_assoc]
mutual
theorem gd_ofm:∀(o:Ord)(z:Int),o.gd=true→z+o.size≤127→o.ofm z=true
 |.node k a ps,z,h,hz=>by
  rw[Ord.gd] at h;rw[Ord.ofm];rw[Ord.size] at hz;by_cases h1:k=1
  ·rw[if_pos h1] at h ⊢;exact h
  rw[if_neg h1] at h ⊢;simp only[Bool.and_eq_true,Bool.or_eq_true,decide_eq_true_eq] at h;have:=Ord.sizes_len ps;rw[if_pos h.1.1.1,gds_ofms ps (z+1) h.2 (by omega)];simp only[Bool.and_eq_true,decide_eq_true_eq,Bool.and_true];omega
theorem gds_ofms:∀(l:List Ord)(z:Int),Ord.gds l=true→z+Ord.sizes l≤127→Ord.ofms z l=true
 |[],_,_,_=>rfl
 |a :: r,z,h,hz=>by
  rw[Ord.gds,Bool.and_eq_true] at h;rw[Ord.sizes] at hz;rw[Ord.ofms,gd_ofm a z h.1 (by omega),gds_ofms r z h.2 (by omega)];rfl
end
end Lfc
namespace Go.Proofs.YthajalgkjonaaaaGreatDoor
open Go.RowKit Go.Maps _root_.Lfc
attribute [local go_sem ↓] Go.wp_at_zero Go.wp_at_succ
theorem TapeL.sameG{T:Nat}{w w':World}(h:TapeL T w)(hk:∀b,b≤T→w'.heap[b]?=w.heap[b]?):TapeL T w':=by
 obtain⟨A,n,c,i,ht,hi,hn,hc⟩:=h.t;refine⟨⟨A,n,c,i,(hk T (zN _)).trans ht,hi,hn,fun hp=>?_⟩⟩;obtain⟨b,o,hA,hbT,hx⟩:=hc hp;refine⟨b,o,hA,hbT,fun k hk2=>?_⟩;obtain⟨x,hx⟩:=hx k hk2;exact⟨x,(World.cell?_of_block (hk b (by omega))).trans hx⟩
structure MkG(wa:World)(T R base P:Nat)(k:Int)(os:List Lfc.Ord)(A:Option Addr)(c:Nat)(xs:List Value)(wr:World):Prop where
 r:wr.heap[R]?=some (.cells #[.int .i64 k,.int .i64 0,.slice A os.length c] 40 (0,0))
 own:wr.ownsRow base 40 3 (.slice A os.length c) os.length xs
 row:ORow (fun b=>base≤b∧some b≠(Value.slice A os.length c).ownBlock) wr os xs
 oth:Oth T wa wr
 tape:TapeL T wr
 size:base≤wr.heap.size
 few:Lfc.Ord.sizes os+os.length≤os.length*P
 mods:Lfc.Ord.gds os=true
def MadeG(w:World)(T P:Nat)(e:Ending)(w':World):Prop :=
 (∃o v,e=.returned v∧OrdVP (fun b=>w.heap.size≤b) w' o v∧o.size+1≤P∧o.gd=true)∧TapeL T w'∧Oth T w w'
theorem gOrder_any:∀(d:Nat),d<=3->∀(T:Nat)(w:World),TapeL T w ->
  Calls Tryz.prog 45 #[.pointer (some ⟨T,0,none⟩),zI (d:Int)] w (MadeG w T (2 ^ (d+1))):=by
 intro d;induction d using Nat.strongRecOn with
 |ind d ih0 =>
 intro hd3 T w hT;have IH:=zH ih0;clear ih0;have hTl:=hT.lt;obtain⟨i0,hi,hz0,hz1,hz2⟩:=ord_info;obtain⟨wa,hwa⟩:∃wa,w.alloc (.cells #[zI 0,zI 0,zS] 40)=wa:=⟨_,rfl⟩;have ba:=zG hwa;have qa:=zQ hwa;have la:=zL qa;have QA:=zH qa;have OA:Hid (Oth T w wa):=zH (zE ba);have TA:=zH (hT.below ba);clear hT ba qa;go_enter Tryz.func45,Tryz.ntmps45;go_wp2_with fail;refine(tapeL_next T 3 wa (by omega) (by omega) TA.o).mono ?_;rintro e w1⟨⟨r1,hr1,rfl⟩,T1',o1'⟩;have T1:=zH T1';have O1:=zH o1';have hs1:=o1'.size;clear T1' o1' hwa;obtain⟨kI,hkI⟩:∃kI:Int,IntKind.i64.wrap (1+(r1:Int))=kI:=⟨_,rfl⟩;have hkv:kI=1+(r1:Int):=by rw[<-hkI];exact Zi _ (by omega)
 by_cases hleaf:d=0\/kI=1
 ·have leaf:∀(r2:Nat)(w2:World),r2<4->TapeL T w2->Oth T w1 w2->∃s1 s2 s3,w2.setCell ⟨w.heap.size,0,none⟩ (zI 1)=s1/\s1.setCell ⟨w.heap.size,1,none⟩ (zI (1+(r2:Int)))=s2/\s2.setCell ⟨w.heap.size,2,none⟩ zS=s3 /\
    (zc w2 w.heap.size 0 (zI 0)/\zc s1 w.heap.size 1 (zI 0)/\zc s2 w.heap.size 2 zS) /\
    (w2.frozen? ⟨w.heap.size,0,none⟩=false/\s1.frozen? ⟨w.heap.size,1,none⟩=false/\s2.frozen? ⟨w.heap.size,2,none⟩=false) /\
    s3.heap[w.heap.size]?=some (.cells #[zI 1,zI (1+(r2:Int)),zS] 40 (0,0))/\Hid (MadeG w T (2 ^ (d+1)) (.returned (.agg #[zI 1,zI (1+(r2:Int)),zS])) s3):=by
   intro r2 w2 hr2 t2 o2;have hq2:=o2.heap (O1.o.heap QA.o (by omega)) (show w.heap.size≠T by omega);obtain⟨s1,s2,s3,g1,g2,g3,hy,hf,hq,hot⟩:=oput3 hq2 (zI 1) (zI (1+(r2:Int))) zS;refine⟨s1,s2,s3,g1,g2,g3,hy,hf,hq,zH ⟨⟨.node 1 (1+(r2:Int)) [],_,rfl,OrdVP.mk (ts:=[]) (Nat.zero_le _) (fun h=>absurd rfl h),?_,?_⟩,t2.oth (by omega) hot,?_⟩⟩
   ·have:=Nat.one_le_two_pow (n:=d);rw[Nat.pow_succ];simp only[Lfc.Ord.size,Lfc.Ord.sizes];omega
   ·have:(1:Int)<=1+(r2:Int)/\1+(r2:Int)<=64:=(by omega);simp[Lfc.Ord.gd,this.1,this.2]
   refine Oth.of_new ((OA.o.trans O1.o).trans o2) ⟨hot.os,hot.tape,hot.output,hot.size,fun b hb=>hot.block b (by have:=o2.size;omega) (fun e=>by have:=zO e;omega)⟩
  have LEAF:=zH leaf;clear leaf;have hw4:∀r2:Nat,r2<4->IntKind.i64.wrap (1+(r2:Int))=1+(r2:Int):=fun r2 h=>Zi _ (by omega);have HW4:=zH hw4;clear hw4;by_cases hd0:d=0
  ·have hd1:decide ((d:Int)<=0)=true:=Zt (by omega);clear hleaf;go_wp2_with fail;refine(tapeL_next T 4 w1 (by omega) (by omega) T1.o).mono ?_;rintro e w2⟨⟨r2,hr2,rfl⟩,T2,o2⟩;have hw4:=HW4.o r2 hr2;obtain⟨s1,s2,s3,g1,g2,g3,⟨p0,p1,p2⟩,⟨f0,f1,f2⟩,hq,HZ⟩:=LEAF.o r2 w2 hr2 T2 o2;have HQ:=zH hq;clear hq T2 o2;go_wp2_with fail;refine Zb (results_ord rfl _ _ _ _ _ _ rfl HQ.o) ?_;exact HZ.o
  have hd1:decide ((d:Int)<=0)=false:=Zu (by omega);have hk1:kI=1:=hleaf.resolve_left hd0;obtain rfl:r1=0:=by omega
  clear hleaf hkv hk1 hkI;go_wp2_with fail;refine(tapeL_next T 4 w1 (by omega) (by omega) T1.o).mono ?_;rintro e w2⟨⟨r2,hr2,rfl⟩,T2,o2⟩;have hw4:=HW4.o r2 hr2;obtain⟨s1,s2,s3,g1,g2,g3,⟨p0,p1,p2⟩,⟨f0,f1,f2⟩,hq,HZ⟩:=LEAF.o r2 w2 hr2 T2 o2;have HQ:=zH hq;clear hq T2 o2;go_wp2_with fail;refine Zb (results_ord rfl _ _ _ _ _ _ rfl HQ.o) ?_;exact HZ.o
 have hd0:¬d=0:=fun h=>hleaf (.inl h);clear hkI;subst hkv;have hk1:(1+(r1:Int) == 1)=false:=by simpa using fun h=>hleaf (.inr (by omega))
 have HK1:Hid (1<=r1/\r1<=2):=zH ⟨by have:¬(1+(r1:Int)=1):=fun h=>hleaf (.inr h);omega,by omega⟩;have hd1:decide ((d:Int)<=0)=false:=Zu (by omega);have hdw:IntKind.i64.wrap ((d:Int)-1)=((d-1:Nat):Int):=by rw[Zi _ (by omega)];omega
 have IHD:=zH (IH.o (d-1) (by omega) (by omega));have hpw:2 ^ (d+1)=2*2 ^ (d-1+1):=by rw[show d-1+1=d by omega,Nat.pow_succ];omega
 have hpp:1<=2 ^ (d-1+1):=Nat.one_le_two_pow;obtain⟨PP,hPP⟩:∃PP,2 ^ (d-1+1)=PP:=⟨_,rfl⟩;rw[hPP] at hpw hpp IHD;have HPW:=zJ hpw hpp;obtain⟨w2,hw2⟩:∃w2,w1.alloc (.cells #[zI (1+(r1:Int)),zI 0,zS] 40)=w2:=⟨_,rfl⟩;have b2:=zG hw2;have q2:=zQ hw2;have l2:=zL q2;have T2:=zH (T1.o.below b2);have O2:=zH (O1.o.trans (zE b2));have Q2:=zH q2;have HW2:=zH hw2;clear hw2 b2 q2 hpw hpp hPP IH;go_upto_region 5 with fail;rw[HW2.o];clear HW2;go_wp2_with fail;refine(tapeL_next T 2 w2 (by omega) (by omega) T2.o).mono ?_;rintro e w3⟨⟨r3,hr3,rfl⟩,T3',o3'⟩;have hs3:=o3'.size;have hw3:IntKind.i64.wrap (1+(r3:Int))=((r3+1:Nat):Int):=by rw[Zi _ (by omega)];omega
 have I0:Hid (MkG wa T w1.heap.size (w1.heap.size+1) PP (1+(r1:Int)) [] none 0 [] w3):=zH ⟨o3'.heap Q2.o (by omega),⟨by simp,.inl ⟨rfl,rfl⟩⟩,by rw[ORow],O2.o.trans o3',T3',by omega,by simp[Lfc.Ord.sizes],by simp[Lfc.Ord.gds]⟩;clear T3' o3';obtain⟨N,hN⟩:∃N,r3+1=N:=⟨_,rfl⟩;rw[hN] at hw3;go_upto_block 0 with fail;go_wp2_with fail;go_loopw [7] (fun i wr=>∃(j:Nat)(os:List Lfc.Ord)(A:Option Addr)(c:Nat)(xs:List Value),j+os.length=N/\i=zI (j:Int)/\Hid (MkG wa T w1.heap.size (w1.heap.size+1) PP (1+(r1:Int)) os A c xs wr)) (fun i _=>(intOf i).toNat);case atStart=>exact⟨N,[],none,0,[],by simp,rfl,I0⟩
 clear I0;obtain⟨j,os,A,c,xs,hjn,rfl,HI⟩:=hrel;have hsb:=HI.o.size;have hol:Hid (os.length=os.length):=zH rfl;by_cases hj:j=0
 ·subst hj;have hpt:=ord_parts (lo:=w.heap.size) (by omega) HI.o.own HI.o.row;have HR:=zH HI.o.r;have hl:os.length=1\/os.length=2:=by omega
  have hqw:=HI.o.oth.heap QA.o (show w.heap.size≠T by omega);obtain⟨u0,u1,u2⟩:=cells3o HI.o.r;obtain⟨s1,s2,s3,g1,g2,g3,⟨p0,p1,p2⟩,⟨f0,f1,f2⟩,hq,hot⟩:=oput3 hqw (zI (1+(r1:Int))) (zI 0) (.slice A os.length c);have HQ:=zH hq;have HZ:Hid (MadeG w T (2 ^ (d+1)) (.returned (.agg #[zI (1+(r1:Int)),zI 0,.slice A os.length c])) s3):=zH (by
   refine⟨⟨.node (1+(r1:Int)) 0 os,_,rfl,OrdVP.mk hpt.2 ?_,?_,?_⟩,HI.o.tape.oth (by omega) hot,?_⟩
   ·have hpt2:=ord_parts (lo:=w1.heap.size) (by omega) HI.o.own HI.o.row;refine hpt2.1.keep (fun b hb hlt=>?_) hot.size (fun b _ hb=>by have hb:w1.heap.size<=b:=hb;show w.heap.size<=b;omega);have hb:w1.heap.size<=b:=hb;exact hot.block b hlt (fun e=>by have:=zO e;omega)
   ·have h1:=HI.o.few;have h2:=HPW.o.1;have h3:=HPW.o.2;simp only[Lfc.Ord.size];rcases hl with hl | hl
    ·rw[hl] at h1;omega
    rw[hl] at h1;omega
   ·have h1:=HK1.o;have h2:(1+(r1:Int)=2\/1+(r1:Int)=3)/\¬(1+(r1:Int)=1)/\0<os.length:=(by omega);rw[Lfc.Ord.gd,if_neg h2.2.1,HI.o.mods];simp[h2.1,h2.2.2]
   refine Oth.of_new (OA.o.trans HI.o.oth) ⟨hot.os,hot.tape,hot.output,hot.size,fun b hb=>hot.block b (by omega) (fun e=>by have:=zO e;omega)⟩)
  clear hq hot hpt HI hqw hl hjn hol;go_wp2_with fail;refine Zb (results_ord rfl _ _ _ _ _ _ rfl HQ.o) ?_;exact HZ.o
 have hj1:decide ((j:Int)>0)=true:=Zt (by omega);have hj2:decide ((0:Int)<(j:Int))=true:=Zt (by omega);have hjw:IntKind.i64.wrap ((j:Int)-1)=((j-1:Nat):Int):=by rw[Zi _ (by omega)];omega
 have HR:=zH HI.o.r;have HOWN:=zH HI.o.own;have HROW:=zH HI.o.row;have HOX:=zH HI.o.oth;have TX:=zH HI.o.tape;have hbx:=HI.o.size;have hlo:os.length<=2:=by omega
 have HFM:=zJ HI.o.few HI.o.mods;have HJN:=zH hjn;obtain⟨lo,hlo2⟩:∃lo,os.length=lo:=⟨_,rfl⟩;have hol:=zH hlo2;rw[hlo2] at HR HOWN HROW hlo;have yx:zc wr w1.heap.size 2 (.slice A lo c):=zC HR.o 2;have hlm:lo+1<=maxLen:=by unfold maxLen;omega
 have hl40:(lo+1)*40<=140737488355328:=by omega
 have hrb:w1.heap.size<w1.heap.size+1:=Nat.lt_succ_self _;have hTr:T<w1.heap.size:=by omega
 have hrT:w1.heap.size≠T:=by omega
 have hTow:(Value.slice A lo c).ownBlock=some T->False:=fun e=>by have:=(HOWN.o.lt _ e).1;omega
 have hwa3:wa.heap.size<=w1.heap.size:=hs1;clear HI hlo2 hjn;go_upto_region 8 with fail;go_region_law (first
  |(go_simp;go_at_call 45;refine(IHD.o T _ (TX.o.below (zB _ _).drew)).mono ?_;rintro e w9⟨⟨t9,v9,rfl,hv9,hz9,hm9⟩,T9,o9⟩;obtain⟨k9,a9,ts9,ht9⟩:=ord_node t9;rw[ht9] at hv9;obtain⟨A9,c9,rfl,hp9⟩:=hv9.open_;have q9:=o9.heap HR.o hrT;have y9:zc w9 w1.heap.size 2 (.slice A lo c):=zC q9 2;have y9a:∀o,(w9.alloc o).cell? ⟨w1.heap.size,2,none⟩=some (.slice A lo c):=fun o=>zC ((zA _ _ _ (zL q9)).trans q9) 2;have hown9:=HOWN.o.drew.kept o9 (Or.inr hTow);have hs9':w1.heap.size+1<=w9.heap.size:=zR hbx o9.size)
  |(refine step_append_own_at _ (by rfl) _ _ 38 (by rfl) (w1.heap.size+1) 40 i0 (.agg #[zI 0,zI 0,zS]) 3 40 Tryz.underlying38 hi hz0 hz1 hz2 rfl (by decide) _ _ _ (by rfl) (hown9.alloc _) ⟨w9.heap.size,0,none⟩ 1 1 [zI k9,zI a9,.slice A9 ts9.length c9] (by rfl) (by rfl) (fun j u h=>ocells_new w9 _ rfl [zI k9,zI a9,.slice A9 ts9.length c9] _ j u h) oneCell3 hlm hl40 (oalloc_le hs9') ?_;intro v' w10 hown10 hg10 hloc10;obtain⟨A10,c10,rfl⟩:=oform hown10;obtain⟨hr10,hfin⟩:=ord_final (ts:=os) hrb hTr hbx hwa3 HR.o (by rw[hol.o];exact HOWN.o) HROW.o HOX.o o9 hp9 (by rw[hol.o];exact hown10) hg10 (oalloc_loc hloc10);have y10:=(zC hr10 2:zc w10 w1.heap.size 2 (.slice A lo c));have f10:=zF hr10 2))
 all_goals
  obtain⟨f1,f2,f3,f4,f5,f6,f7⟩:=hfin;have HNX:Hid (MkG wa T w1.heap.size (w1.heap.size+1) PP (1+(r1:Int)) (os++[t9]) A10 c10 (xs++[zI k9,zI a9,.slice A9 ts9.length c9]) (w10.setCell ⟨w1.heap.size,2,none⟩ (.slice A10 (lo+1) c10))):=zH (by
   have el:(os++[t9]).length=lo+1:=(by rw[Zq,hol.o];rfl);refine⟨by rw[el];exact f1,by rw[el];rw[<-ht9,el] at f2;exact f2,by rw[el,ht9];exact f3,f4,T9.sameG (fun b hb=>?_),f5,?_,?_⟩
   ·by_cases hbT:b=T
    ·rw[hbT];exact f7
    rw[f6 b (by omega) (by omega) hbT];exact(o9.block b (by show b<wr.heap.size;omega) (fun e=>hbT (zO e))).symm
   ·rw[el,Lfc.Ord.sizes_app];have h1:=HFM.o.1;rw[hol.o] at h1;simp only[Lfc.Ord.sizes];have h2:(lo+1)*PP=lo*PP+PP:=Nat.succ_mul _ _;omega
   rw[gds_app,HFM.o.2];simp only[Lfc.Ord.gds,hm9,Bool.and_true])
  have HJ2:Hid (j-1+(os++[t9]).length=N):=zH (by
   have:=HJN.o;rw[Zq];simp only[List.length_singleton];omega)
  clear f1 f2 f3 f4 f5 f6 f7 hp9 o9 hown9 hown10 hg10 ht9 hz9 hm9 T9;go_wp2_with fail;go_roundw;case rel=>exact⟨j-1,os++[t9],A10,c10,_,HJ2.o,rfl,HNX⟩
  case measure=>simp[intOf];omega
end Go.Proofs.YthajalgkjonaaaaGreatDoor
namespace Lfc
theorem blank_nil(kd:Int)(ps:Nat):(⟨kd,ps,[],[],[],op0,[],[],[],[],[],[],Ord.nil,Ord.nil,0,0⟩:Itm).blank=true:=by simp[Itm.blank,Itm.lens,Ord.nil,Ord.no]
theorem made_named{kd:Int}{ps:Nat}{n:List UInt8}(hk:kd=7∨kd=8∨kd=9)(hn:isName n=true)(hl:n.length≤10):MadeI ⟨kd,ps,n,[],[],op0,[],[],[],[],[],[],Ord.nil,Ord.nil,0,0⟩:=by
 refine⟨?_,by simp[Itm.trees],by simp,by simp,hl,by simp,by simp,by simp,by simp,by simp,by simp,by simp,by simp[Ord.nil,Ord.size,Ord.sizes],by simp[Ord.nil,Ord.size,Ord.sizes],fun h=>by simp only at h;omega⟩;unfold Itm.formedP;simp only[blank_nil,hn];rcases hk with rfl | rfl | rfl <;> rfl
theorem made_const{ps:Nat}{n:List UInt8}{t:Raw}(hn:isName n=true)(hl:n.length≤10)(ht:t.fs=true∧t.size≤15∧t.depth≤4):MadeI ⟨1,ps,n,[t],[],op0,[],[],[],[],[],[],Ord.nil,Ord.nil,0,0⟩:=by
 refine⟨?_,by simpa[Itm.trees] using ht,by simp,by simp,hl,by simp,by simp,by simp,by simp,by simp,by simp,by simp,by simp[Ord.nil,Ord.size,Ord.sizes],by simp[Ord.nil,Ord.size,Ord.sizes],fun h=>by simp at h⟩;unfold Itm.formedP;simp only[blank_nil,hn];rfl
theorem made_def1{ps:Nat}{n:List UInt8}{v:Raw}(hn:isName n=true)(hl:n.length≤10)(hv:v.fs=true∧v.size≤15∧v.depth≤4):MadeI ⟨2,ps,n,[],[v],op0,[],[],[],[],[],[],Ord.nil,Ord.nil,0,0⟩:=by
 refine⟨?_,by simpa[Itm.trees] using hv,by simp,by simp,hl,by simp,by simp,by simp,by simp,by simp,by simp,by simp,by simp[Ord.nil,Ord.size,Ord.sizes],by simp[Ord.nil,Ord.size,Ord.sizes],fun h=>by simp at h⟩;unfold Itm.formedP;simp only[blank_nil,hn];rfl
theorem made_def2{ps:Nat}{n:List UInt8}{t v:Raw}(hn:isName n=true)(hl:n.length≤10)(ht:t.fs=true∧t.size≤15∧t.depth≤4)(hv:v.fs=true∧v.size≤15∧v.depth≤4):MadeI ⟨2,ps,n,[t],[v],op0,[],[],[],[],[],[],Ord.nil,Ord.nil,0,0⟩:=by
 refine⟨?_,fun x hx=>?_,by simp,by simp,hl,by simp,by simp,by simp,by simp,by simp,by simp,by simp,by simp[Ord.nil,Ord.size,Ord.sizes],by simp[Ord.nil,Ord.size,Ord.sizes],fun h=>by simp at h⟩
 ·unfold Itm.formedP;simp only[blank_nil,hn];rfl
 simp[Itm.trees] at hx;rcases hx with rfl | rfl
 ·exact ht
 exact hv
theorem made_op{ps:Nat}{n:List UInt8}{f c:Int}(hn:isName n=true)(hl:n.length≤10)(hb:(⟨n,f,c⟩:Op).bad=0):MadeI ⟨3,ps,[],[],[],⟨n,f,c⟩,[],[],[],[],[],[],Ord.nil,Ord.nil,0,0⟩:=by
 refine⟨?_,by simp[Itm.trees],by simp,by simp,by simp,hl,by simp,by simp,by simp,by simp,by simp,by simp,by simp[Ord.nil,Ord.size,Ord.sizes],by simp[Ord.nil,Ord.size,Ord.sizes],fun _=>hb⟩;unfold Itm.formedP;simp only[blank_nil];rfl
theorem made_block{ps:Nat}{n:List UInt8}{so pa:List Bnd}(hn:isName n=true)(hl:n.length≤10)(hso:so.length≤2∧∀b∈so,isName b.1=true∧b.1.length≤10∧b.2.fs=true∧b.2.size≤7∧b.2.depth≤3)(hpa:pa.length≤2∧∀b∈pa,isName b.1=true∧b.1.length≤10∧b.2.fs=true∧b.2.size≤7∧b.2.depth≤3)(hp0:0<pa.length) :
  MadeI ⟨4,ps,n,[],[],op0,so,pa,[],[],[],[],Ord.nil,Ord.nil,0,0⟩:=by
 refine⟨?_,fun x hx=>?_,by simp,by simp,hl,by simp,⟨hso.1,fun b hb=>⟨(hso.2 b hb).2.1,(hso.2 b hb).2.2.2.1⟩⟩,⟨hpa.1,fun b hb=>⟨(hpa.2 b hb).2.1,(hpa.2 b hb).2.2.2.1⟩⟩,by simp,by simp,by simp,by simp,by simp[Ord.nil,Ord.size,Ord.sizes],by simp[Ord.nil,Ord.size,Ord.sizes],fun h=>by simp at h⟩
 ·unfold Itm.formedP;have e1:bndsF so=true:=by unfold bndsF;simp only[Bool.not_eq_true',List.any_eq_false];intro b hb;simp[(hso.2 b hb).1]
  have e2:bndsF pa=true:=by unfold bndsF;simp only[Bool.not_eq_true',List.any_eq_false];intro b hb;simp[(hpa.2 b hb).1]
  simp only[blank_nil,hn,e1,e2,decide_eq_true hp0];rfl
 simp only[Itm.trees,List.nil_append,List.mem_map,List.mem_append] at hx;obtain⟨b,hb,rfl⟩:=hx;rcases hb with hb | hb
 ·have h:=hso.2 b hb;exact⟨h.2.2.1,by omega,by omega⟩
 have h:=hpa.2 b hb;exact⟨h.2.2.1,by omega,by omega⟩
theorem made_worlds{ps:Nat}{bl fa:List (List UInt8)}(hbl:bl.length≤2∧∀b∈bl,isName b=true∧b.length≤10)(hfa:fa.length≤2∧∀b∈fa,isName b=true∧b.length≤10)(h0:0<fa.length) :
  MadeI ⟨5,ps,[],[],[],op0,[],[],bl,fa,[],[],Ord.nil,Ord.nil,0,0⟩:=by
 refine⟨?_,by simp[Itm.trees],by simp,by simp,by simp,by simp,by simp,by simp,⟨hbl.1,fun b hb=>(hbl.2 b hb).2⟩,⟨hfa.1,fun b hb=>(hfa.2 b hb).2⟩,by simp,by simp,by simp[Ord.nil,Ord.size,Ord.sizes],by simp[Ord.nil,Ord.size,Ord.sizes],fun h=>by simp at h⟩;unfold Itm.formedP;have e1:namesF' bl=true:=by unfold namesF';simp only[Bool.not_eq_true',List.any_eq_false];intro b hb;simp[(hbl.2 b hb).1]
 have e2:namesF' fa=true:=by unfold namesF';simp only[Bool.not_eq_true',List.any_eq_false];intro b hb;simp[(hfa.2 b hb).1]
 simp only[blank_nil,e1,e2,decide_eq_true h0];rfl
theorem made_mode{ps:Nat}{n:List UInt8}{si:List Int}(hn:isName n=true)(hl:n.length≤10)(hs:si.length≤3∧∀i∈si,1≤i∧i≤3):MadeI ⟨6,ps,n,[],[],op0,[],[],[],[],si,[],Ord.nil,Ord.nil,0,0⟩:=by
 refine⟨?_,by simp[Itm.trees],by simp,by simp,hl,by simp,by simp,by simp,by simp,by simp,hs.1,by simp,by simp[Ord.nil,Ord.size,Ord.sizes],by simp[Ord.nil,Ord.size,Ord.sizes],fun h=>by simp at h⟩;unfold Itm.formedP;have e1:si.any signBad=false:=by
  rw[List.any_eq_false];intro i hi;have:=hs.2 i hi;unfold signBad;simp;omega
 simp only[blank_nil,hn,e1];rfl
theorem made_orders{kd:Int}{ps:Nat}{od:List (List UInt8 × Ord)}(hk:kd=10∨kd=11)(ho:od.length≤2∧∀b∈od,isName b.1=true∧b.1.length≤10∧b.2.gd=true∧b.2.size≤7)(h0:0<od.length):MadeI ⟨kd,ps,[],[],[],op0,[],[],[],[],[],od,Ord.nil,Ord.nil,0,0⟩:=by
 refine⟨?_,by simp[Itm.trees],by simp,by simp,by simp,by simp,by simp,by simp,by simp,by simp,by simp,⟨ho.1,fun b hb=>⟨(ho.2 b hb).2.1,(ho.2 b hb).2.2.2⟩⟩,by simp[Ord.nil,Ord.size,Ord.sizes],by simp[Ord.nil,Ord.size,Ord.sizes],fun h=>by simp only at h;omega⟩;unfold Itm.formedP;have e1:fordsF od=true:=by
  unfold fordsF;simp only[Bool.and_eq_true,decide_eq_true_eq,Bool.not_eq_true',List.any_eq_false];refine⟨h0,fun b hb=>?_⟩;have h:=ho.2 b hb;simp[h.1,gd_ofm b.2 0 h.2.2.1 (by omega)]
 simp only[blank_nil,e1];rcases hk with rfl | rfl <;> rfl
theorem made_reduces{ps:Nat}{n:List UInt8}{le ri:Ord}{r:Int}(hn:isName n=true)(hl:n.length≤10)(hle:le.gd=true∧le.size≤7)(hri:ri.gd=true∧ri.size≤7)(h1:1≤r)(h3:r≤3):MadeI ⟨12,ps,n,[],[],op0,[],[],[],[],[],[],le,ri,r,0⟩:=by
 refine⟨?_,by simp[Itm.trees],by simp,by simp,hl,by simp,by simp,by simp,by simp,by simp,by simp,by simp,hle.2,hri.2,fun h=>by simp at h⟩;unfold Itm.formedP;simp only[blank_nil,hn,gd_ofm le 0 hle.1 (by omega),gd_ofm ri 0 hri.1 (by omega),decide_eq_true h1,decide_eq_true h3];rfl
theorem made_query{ps c:Nat}{t:Raw}(hc:c≤1000)(ht:t.fs=true∧t.size≤15∧t.depth≤4):MadeI ⟨13,ps,[],[t],[],op0,[],[],[],[],[],[],Ord.nil,Ord.nil,0,c⟩:=by
 refine⟨?_,by simpa[Itm.trees] using ht,by simp,by simp,by simp,by simp,by simp,by simp,by simp,by simp,by simp,by simp,by simp[Ord.nil,Ord.size,Ord.sizes],by simp[Ord.nil,Ord.size,Ord.sizes],fun h=>by simp at h⟩;unfold Itm.formedP;have h0:(0:Int)≤(c:Int):=Int.natCast_nonneg _;have h1:(c:Int)≤1000:=by omega
 simp only[blank_nil,decide_eq_true h0,decide_eq_true h1];rfl
end Lfc
namespace Go.Proofs.YthajalgkjonaaaaGreatDoor
section
open Go.RowKit _root_.Lfc
def cellLen(I j:Nat)(W:World):Nat:=match W.cell? ⟨I,j,none⟩ with
 |some (.slice _ n _)=>n
 |_=>0
theorem cellLen_eq{I j:Nat}{W:World}{A:Option Addr}{n c:Nat}(h:W.cell? ⟨I,j,none⟩=some (.slice A n c)):cellLen I j W=n:=by simp[cellLen,h]
theorem int_infoP:∃i,Tryz.prog.info? 3=some i∧i.zero=some (.int .i64 0)∧i.size=1∧i.bytes=8:=by
 obtain⟨i0,hi,hz0,hz1,hz2⟩:=info_parts (show(Tryz.prog.info? 3).map (fun i=>(i.zero,i.size,i.bytes))=some (some (.int .i64 0),1,8) by kernel_rfl);exact⟨i0,hi,hz0,hz1,hz2⟩
theorem mode_any{P I k:Nat}{G:Hd}{p:Lfc.PE}(a:Nat)(w:World)(h:ItF w w P I G p k (itCells (Itm.new a) IS.nil))(hk:k<=p.toks.length)(ok:POk p) :
  Calls Tryz.prog 130 #[.pointer (some ⟨P,0,none⟩),.pointer (some ⟨I,0,none⟩)] w (ItRes P I G p w (p.modeP (Itm.new a) k)):=by
 have hlen:=ok.len;have hP:=h.pw.lt;have hI:=h.lt;have OK:=zH ok;have F0:=zH h;have HPI:=zJ hP hI;obtain⟨M,hm⟩:∃M,p.modeP (Itm.new a) k=M:=⟨_,rfl⟩;rw[hm];have HR:=zH hm.symm;have HNEM:=zH hm;unfold Lfc.PE.modeP at HR;clear h ok hm;obtain⟨iz,hi,hz0,hz1,hz2⟩:=int_infoP;have HNE:Hid (M≠.out):=zH (by have:=(fair_mode p (Itm.new a) k).1;rw[HNEM.o] at this;exact this);go_enter Tryz.func130,Tryz.ntmps130;have FR:=fair_name p k;rcases Lfc.PR.cases FR.1 with⟨cc,aa,hr⟩ | ⟨n,k1,hr⟩
 ·have C:=zH (name_at w F0.o.pw (by omega) OK.o);rw[hr] at C;have hm:=HR.o;rw[hr,Lfc.PR.then_errE] at hm;have HM:=zH hm;clear hr FR hm;go_wp2_with (go_at_call 138;refine C.o.mono ?_;rintro e w1⟨rfl,o1⟩);rw[HM.o];exact⟨rfl,rfl,(Oth2.refl P I w).trans (F0.o.oth.trans (Oth2.left o1))⟩
 have C:=zH (name_at w F0.o.pw (by omega) OK.o);rw[hr] at C;have hm:=HR.o;rw[hr,Lfc.PR.then_okE] at hm;have HR:=zH hm;obtain⟨hk1a,hk1b⟩:=FR.2.2 _ _ hr;have HE1:=zH hr;clear hr FR hm;go_wp2_with (go_at_call 138;refine C.o.mono ?_;rintro e w1⟨⟨v1,rfl,rfl⟩,h1,o1⟩;have F1a:=zH (F0.o.call h1 o1);obtain⟨s2,u2,e2,y2,z2,F2⟩:=F1a.o.set 0 (zI 6) (by decide);obtain⟨s3,u3,e3,y3,z3,F3⟩:=F2.o.set 2 (S n) (by decide));have HN:=zH (name_le OK.o HE1.o);have hsz:=F3.o.oth.size;obtain⟨hPx,hIx⟩:=HPI.o;have HPB:Hid (P<s3.heap.size/\I<s3.heap.size/\w.heap.size<=s3.heap.size):=zH ⟨by omega,by omega,hsz⟩;have L0:Hid (LsF w s3 P I s3.heap.size G p k1 _ 12 3 1 0 [] none 0):=zH (LsF.start F3.o rfl);obtain⟨CS,hCS⟩:∃CS,((itCells (Itm.new a) IS.nil).setIfInBounds 0 (zI 6)).setIfInBounds 2 (S n)=CS:=⟨_,rfl⟩;rw[hCS] at L0;have HCS:=zH hCS;clear hCS hsz;go_loopw [] (fun wr=>∃(f kk:Nat)(l:List Int)(A:Option Addr)(c:Nat),kk<=p.toks.length/\l.length<=kk/\Hid (M=(signsF p f kk l).then fun l k2=>.ok ({ Itm.new a with kind:=6,name:=n,signs:=l },p.ops) k2)/\Hid (LsF w wr P I s3.heap.size G p kk CS 12 3 1 l.length (l.map fun i=>zI i) A c)/\s3.heap.size<=wr.heap.size) (fun wr=>30000-cellLen I 12 wr);case atStart=>exact⟨p.toks.length+1,k1,[],none,0,by omega,by simp,HR,L0,zN _⟩
 clear L0 HR F3;obtain⟨f,kk,l,A,c,hkk,hll,HM,HL,hbr⟩:=hrel;obtain _ | f:=f
 ·exact absurd HM.o HNE.o
 have hm:=HM.o;rw[signsF] at hm;have CT:=zH (take_any 2 [46] wr HL.o.f.pw hkk OK.o);cases hz:p.is kk 2 [46]
 ·rw[if_neg (by rw[hz];decide)] at hm;simp only[hz,if_true,Bool.false_eq_true,if_false] at CT;have HM:=zH hm;clear hm
  as_aux_lemma =>
   go_upto_region 2 with(go_at_call 139;refine CT.o.mono ?_;rintro e w7⟨rfl,h7,o7⟩);have L7:=zH (HL.o.call HPB.o.1 h7 o7);have hm7:=HPB.o.1;obtain⟨w8,hw8⟩:∃w8,w7.drew.alloc (.cells #[S [43],S [45],S [42]] 9)=w8:=⟨_,rfl⟩;have b8:zb w7 w8:=(by rw[<-hw8];exact((zB _ _).drew).alloc (by simp) _);have q8:zk w8 w7.heap.size #[S [43],S [45],S [42]] 9:=(by rw[<-hw8];exact zW w7.drew _);have o8:Oth P w7 w8:=zE b8;have CWD:=word_any Lfc.signs w7.heap.size 0 3 w8 (h7.below b8) hkk OK.o (by decide) (zL q8) (fun jj hj=>by rw[Nat.zero_add];refine(zC q8 jj).trans ?_;match jj,hj with | 0,_=>rfl | 1,_=>rfl | 2,_=>rfl);have FR:=fair_word p kk Lfc.signs;have y7:zc w7 I 12 (.slice A l.length c):=L7.o.cell (by decide) (Oth.refl _ _);have y7d:w7.drew.cell? ⟨I,12,none⟩=some (.slice A l.length c):=y7;have y8:zc w8 I 12 (.slice A l.length c):=L7.o.cell (by decide) o8;rcases Lfc.PR.cases FR.1 with⟨cc,aa,hr⟩ | ⟨i,k9,hr⟩
   ·rw[hr] at CWD;have CE:=zH CWD;have HF:Hid (M=.err cc aa):=zH (by rw[HM.o,hr];rfl);have O8:=zH (L7.o.f.oth.trans (Oth2.left o8));clear CWD hr FR q8 b8 o8 h7
    as_aux_lemma =>
     refine wp_region_held_drew (S:=fun W=>zc W I 12 (.slice A l.length c)) (by kernel_rfl) y7d (fun hH=>?_);refine tk 0 ?_;refine tk 1 ?_;refine tk 2 ?_;refine tk 3 ?_;refine tk 4 ?_;refine tk 5 ?_;refine rd1 6 (fun K hK=>?_);go_simp;refine hK.out _ _ ?_ (fun hH=>?_)
     ·exact y8
     clear hK K;refine nrm ?_;refine rd1 7 (fun K hK=>?_);go_simp;go_at_call 174;refine CE.o.mono ?_;rintro e w9⟨rfl,o9⟩;go_simp;go_wp2_with fail;rw[HF.o];exact⟨rfl,rfl,O8.o.trans (Oth2.left o9)⟩
   obtain⟨hi0,hi1,_,_⟩:=Lfc.PE.word_ok hr;rw[hr] at CWD;have CE:=zH CWD;have hb9:=FR.2.2 _ _ hr;have HM9:Hid (M=(signsF p f k9 (l++[1+i])).then fun l k2=>.ok ({ Itm.new a with kind:=6,name:=n,signs:=l },p.ops) k2):=zH (by rw[HM.o,hr];rfl);have HLM:Hid (l.length+1<=maxLen/\(l.length+1)*8<=140737488355328):=zH ⟨by unfold maxLen;omega,by omega⟩;have hw9:IntKind.i64.wrap (1+i)=1+i:=Zi _ (by have:(Lfc.signs.length:Int)=3:=rfl;omega);have O8:=zH o8;have hs8:s3.heap.size<=w8.heap.size:=(by have:=o7.size;have:=o8.size;omega);have OW8:=zH (L7.o.call HPB.o.1 (h7.below b8) o8);have hs78:=HPB.o;clear CWD hr FR q8 b8 o8 h7
   as_aux_lemma =>
    go_region_law (first
     |(go_simp;go_at_call 174;refine CE.o.mono ?_;rintro e w9⟨⟨v9,rfl,rfl⟩,h9,o9⟩;have L9:=OW8.o.call HPB.o.1 h9 o9;have hown9:=L9.own;have y9:zc w9 I 12 (.slice A l.length c):=L9.cell (by decide) (Oth.refl _ _);have y9a:∀o,(w9.alloc o).cell? ⟨I,12,none⟩=some (.slice A l.length c):=(fun o=>L9.cell (by decide) (zE ((zB _ _).alloc (zN _) o)));have hs9:s3.heap.size<=w9.heap.size:=(by have:=o9.size;omega))
     |(refine step_append_own_at _ (by rfl) _ _ 22 (by rfl) s3.heap.size 3 iz (zI 0) 1 8 Tryz.underlying22 hi hz0 hz1 hz2 rfl (by decide) _ _ _ (by rfl) (hown9.alloc _) ⟨w9.heap.size,0,none⟩ 1 1 [zI (1+i)] (by rfl) (by rfl) (fun jj u h=>cells_new w9 _ rfl [zI (1+i)] _ jj u h) (by intro u hu;simp at hu;subst hu;rfl) HLM.o.1 HLM.o.2 (alloc_le hs9) ?_;intro v' w10 hown10 hg10 hloc10;obtain⟨A10,c10,rfl⟩:=own_form hown10;obtain⟨⟨y10,f10⟩,L10,U10⟩:=L9.push (by decide) HPB.o.1 HPB.o.2.1 HPB.o.2.2 L9.f.pw (Oth.refl _ _) ((zB _ _).alloc (zN _) _) hown10 hg10 (by simpa using hloc10)))
    all_goals
     have HNX:=zH L10;have U10s:=U10.size;clear hown9 hown10 hg10 hloc10 L10 U10 L9;go_wp2_with fail;go_roundw;case rel=>exact⟨f,k9,l++[1+i],A10,c10,hb9.2,by have:=hb9.1;simp;omega,HM9,by simpa using HNX,zR hs9 (zR (by simp) U10s)⟩
     case measure=>rw[cellLen_eq (HNX.o.cell (by decide) (Oth.refl _ _)),cellLen_eq (HL.o.cell (by decide) (Oth.refl _ _))];omega
 rw[if_pos hz] at hm;simp only[hz,if_true,Bool.false_eq_true,if_false] at CT;have HM:=zH hm;clear hm
 as_aux_lemma =>
  go_wp2_with (go_at_call 139;refine CT.o.mono ?_;rintro e w7⟨rfl,h7,o7⟩)
  go_end0
  rw[HM.o];have L7:=HL.o.call HPB.o.1 h7 o7;refine L7.f.ret { Itm.new a with kind:=6,name:=n,signs:=l } { IS.nil with si:=(A,c) } ?_ ((own_stays L7.own HPB.o.2.2).imp fun W h=>{ ItV.nil W a with name:=HN.o,si:=⟨nums_own h rfl,own_cap h⟩ });rw[<-HCS.o];rfl
end
section
open Go.RowKit
def FRow(q:Nat→Prop)(w:World):List (List UInt8 × Lfc.Ord)→List Value→Prop
 |[],xs=>xs=[]
 |x :: r,xs=>∃v0 v1 v2 ys,xs=S x.1 :: v0 :: v1 :: v2 :: ys∧x.1.length≤1000000∧OrdP q w x.2 v0 v1 v2∧FRow q w r ys
theorem FRow.keep{q q':Nat→Prop}{w w':World}(hk:∀b,q b→b<w.heap.size→w'.heap[b]?=w.heap[b]?)(hs:w.heap.size≤w'.heap.size)(hq:∀b,b<w.heap.size→q b→q' b):∀{l:List (List UInt8 × Lfc.Ord)}{xs:List Value},FRow q w l xs→FRow q' w' l xs
 |[],xs,h=>by rw[FRow] at h ⊢;exact h
 |x :: r,xs,h=>by
  rw[FRow] at h ⊢;obtain⟨v0,v1,v2,ys,rfl,hn,ht,hr⟩:=h;exact⟨v0,v1,v2,ys,rfl,hn,OrdP.keep hk hs hq _ _ _ _ ht,hr.keep hk hs hq⟩
theorem FRow.append{q:Nat→Prop}{w:World}{m:List (List UInt8 × Lfc.Ord)}{ys:List Value}(h':FRow q w m ys):∀{l:List (List UInt8 × Lfc.Ord)}{xs:List Value},FRow q w l xs→FRow q w (l++m) (xs++ys)
 |[],xs,h=>by rw[FRow] at h;subst h;exact h'
 |x :: r,xs,h=>by
  rw[FRow] at h;obtain⟨v0,v1,v2,zs,rfl,hn,ht,hr⟩:=h;rw[List.cons_append,FRow];exact⟨v0,v1,v2,zs++ys,rfl,hn,ht,FRow.append h' hr⟩
theorem FRow.one{q:Nat→Prop}{w:World}{x:List UInt8 × Lfc.Ord}{v0 v1 v2:Value}(hn:x.1.length≤1000000)(h:OrdP q w x.2 v0 v1 v2):FRow q w [x] [S x.1,v0,v1,v2]:=by
 rw[FRow];exact⟨v0,v1,v2,[],rfl,hn,h,by rw[FRow]⟩
theorem FRow.lie{q:Nat→Prop}{w:World}{g:Nat}:∀{l:List (List UInt8 × Lfc.Ord)}{xs:List Value}{o:Nat},FRow q w l xs→(∀k u,xs[k]?=some u→w.cell? ⟨g,o+k,none⟩=some u)→∀i(h:i<l.length),FOrdC w g (o+i*4) l[i]
 |[],xs,o,h,hc=>fun i hi=>absurd hi (Nat.not_lt_zero _)
 |x :: r,xs,o,h,hc=>by
  rw[FRow] at h;obtain⟨v0,v1,v2,ys,rfl,hn,ht,hr⟩:=h;have hrec:=FRow.lie (g:=g) (o:=o+4) hr (fun k u hu=>by
   have:=hc (k+4) u (by simpa using hu);rwa[show o+(k+4)=o+4+k by omega] at this)
  intro i hi
  match i,hi with
  |0,_=>exact⟨v0,v1,v2,by simpa using hc 0 _ rfl,hn,hc 1 _ rfl,hc 2 _ rfl,hc 3 _ rfl,OrdP.toC _ _ _ _ ht⟩
  |i+1,hi =>
   have:=hrec i (by simpa using hi);rwa[show o+4+i*4=o+(i+1)*4 by omega] at this
structure OdF(w0 W:World)(P I base:Nat)(G:Hd)(p:Lfc.PE)(k:Nat)(cs:Array Value)(l:List (List UInt8 × Lfc.Ord))(A:Option Addr)(c:Nat)(xs:List Value):Prop where
 ls:LsF w0 W P I base G p k cs 13 74 4 l.length xs A c
 row:FRow (fun b=>base≤b∧some b≠(Value.slice A l.length c).ownBlock) W l xs
theorem OdF.call{w0 W W1:World}{P I base:Nat}{G:Hd}{p:Lfc.PE}{k k1:Nat}{cs:Array Value}{l:List (List UInt8 × Lfc.Ord)}{A:Option Addr}{c:Nat}{xs:List Value}(h:OdF w0 W P I base G p k cs l A c xs)(hP:P<base)(g1:PW W1 P G p k1)(o1:Oth P W W1):OdF w0 W1 P I base G p k1 cs l A c xs :=
 ⟨h.ls.call hP g1 o1,h.row.keep (fun b hb hlt=>o1.block b hlt (fun e=>by have:=zO e;have:=hb.1;omega)) o1.size (fun _ _ h=>h)⟩
theorem OdF.push{w0 W W1 w2 w3:World}{P I base:Nat}{G:Hd}{p:Lfc.PE}{k k1:Nat}{cs:Array Value}{l:List (List UInt8 × Lfc.Ord)}{A A':Option Addr}{c c':Nat}{xs:List Value}{n:List UInt8}{u:Lfc.Ord}{v0 v1 v2:Value}(h:OdF w0 W P I base G p k cs l A c xs)
  (hP:P<base) (hI:I<base) (hb:w0.heap.size≤base) (hbW:base≤W.heap.size) (g1:PW W1 P G p k1) (o1:Oth P W W1) (b2:Below W1.heap.size W1 w2) (hn:n.length≤1000000) (ht:OrdP (fun b=>W.heap.size≤b) W1 u v0 v1 v2)
  (hown3:w3.ownsRow base 74 4 (.slice A' (l.length+1) c') (l.length+1) (xs++[S n,v0,v1,v2])) (hg:w2.grownBy w3 (Value.slice A l.length c).ownBlock) (hl:(Value.slice A' (l.length+1) c').ownBlock=(Value.slice A l.length c).ownBlock∨(Value.slice A' (l.length+1) c').ownBlock=some w2.heap.size) :
  (w3.cell? ⟨I,13,none⟩=some (.slice A l.length c)∧w3.frozen? ⟨I,13,none⟩=false)∧OdF w0 (w3.setCell ⟨I,13,none⟩ (.slice A' (l.length+1) c')) P I base G p k1 cs (l++[(n,u)]) A' c' (xs++[S n,v0,v1,v2])∧W1.heap.size≤(w3.setCell ⟨I,13,none⟩ (.slice A' (l.length+1) c')).heap.size:=by
 obtain⟨r1,r2,r3⟩:=h.ls.push (by decide) hP hI hb g1 o1 b2 hown3 hg hl;have hv:∀b,(Value.slice A l.length c).ownBlock=some b→base≤b∧b<W.heap.size:=fun b hb=>h.ls.own.lt b hb;have hs1:=o1.size;have hl4:(l++[(n,u)]).length=l.length+1:=by simp
 refine⟨r1,⟨by rw[hl4];exact r2,?_⟩,r3.size⟩;rw[hl4];refine FRow.append (FRow.one (x:=(n,u)) hn (OrdP.keep (w:=W1) (fun b hb hlt=>r3.keep b hlt (by omega) (fun e=>by have:=(hv b e.symm).2;omega)) r3.size (fun b hlt hb=>⟨by omega,r3.out b hlt (fun e=>by have:=(hv b e.symm).2;omega)⟩) _ _ _ _ ht)) ?_;exact h.row.keep (fun b hb hlt=>(r3.keep b (by omega) (by have:=hb.1;omega) hb.2).trans (o1.block b hlt (fun e=>by have:=zO e;have:=hb.1;omega))) (zR hs1 r3.size) (fun b hlt hb=>⟨hb.1,r3.out b (by omega) hb.2⟩)
theorem OdF.stays{w0 W:World}{P I base lo:Nat}{G:Hd}{p:Lfc.PE}{k:Nat}{cs:Array Value}{l:List (List UInt8 × Lfc.Ord)}{A:Option Addr}{c:Nat}{xs:List Value}(h:OdF w0 W P I base G p k cs l A c xs)(hlo:lo≤base):Stays (fun b=>lo≤b) W (fun V=>FOrdsAt V A l∧l.length≤c):=fun V h1 h2=>by
 have hown:=own_stays h.ls.own hlo V h1 h2;have hrow:=h.row.keep (w':=V) (q':=fun _=>True) (fun b hb hlt=>h2 b (zR hlo hb.1) hlt) h1 (fun _ _ _=>trivial);refine⟨fun hne=>?_,own_cap hown⟩;rcases hown.2 with⟨_,h0⟩ | ⟨g,cap,cur,hv,hbg,hg,_⟩
 ·exact absurd (Zz h0) hne
 have hv':=hv;injection hv' with e1 _ e3;subst e1 e3;refine⟨g,0,rfl,zL hg,hrow.lie fun k u hu=>?_⟩;have:=hown.cells (g:=g) rfl k u hu;rwa[show(⟨g,0,none⟩:Addr).add k=⟨g,0+k,none⟩ by unfold Addr.add;split <;> simp_all] at this
theorem OdF.start{w0 W:World}{P I base:Nat}{G:Hd}{p:Lfc.PE}{k:Nat}{cs:Array Value}(h:ItF w0 W P I G p k cs)(hc:cs.setIfInBounds 13 (.slice none 0 0)=cs):OdF w0 W P I base G p k cs [] none 0 []:=⟨LsF.start h hc,by rw[FRow]⟩
theorem ford_infoP:∃i,Tryz.prog.info? 74=some i∧i.zero=some (.agg #[S [],.int .i64 0,.int .i64 0,.slice none 0 0])∧i.size=4∧i.bytes=56:=by
 obtain⟨i0,hi,hz0,hz1,hz2⟩:=info_parts (show(Tryz.prog.info? 74).map (fun i=>(i.zero,i.size,i.bytes))=some (some (.agg #[S [],.int .i64 0,.int .i64 0,.slice none 0 0]),4,56) by kernel_rfl);exact⟨i0,hi,hz0,hz1,hz2⟩
end
end Go.Proofs.YthajalgkjonaaaaGreatDoor
