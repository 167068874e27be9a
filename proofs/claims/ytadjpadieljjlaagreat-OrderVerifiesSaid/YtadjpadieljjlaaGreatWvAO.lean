/- Parts of the proof that no input makes the law false: SmRename, SmKinds, SmPart, SmPart2, SmObj. -/
import Derived.Deep.RegionLawGrows
import Derived.Test.YtadjpadieljjlaaGreatWvAN
set_option linter.unusedVariables false
set_option linter.unusedSimpArgs false
set_option maxRecDepth 100000
set_option maxHeartbeats 32000000
namespace Go.Proofs.YtadjpadieljjlaaGreat
section
open Go.RowKit Go.Maps _root_.Lfc
theorem sRename_any(t:Raw)(v:Value)(zs:List Int)(At:Option Addr)(ct:Nat)(w:World)(ht:t.size<=100000)(hpo:t.posB 1048576=true)(hzl:zs.length<=1000000)(hzs:IntsO w At zs)(hv:TreeV w t v) :
  Calls Tryz.prog 53 #[v,.slice At zs.length ct] w (RenAns w t.size):=by
 have HV:=zH hv;obtain⟨kd,nm,ps,ts⟩:=t;obtain⟨A,c,rfl,hc,hA⟩:=hv.open_;have hsz1:=(Raw.node kd nm ps ts).size_pos;obtain⟨w1,hw1⟩:∃w1,w.alloc (.cells (zT kd nm ps A ts c) 51)=w1:=⟨_,rfl⟩;obtain⟨w2,hw2⟩:∃w2,w1.alloc (.cells #[zI 0,S [],zI 0,zS] 51)=w2:=⟨_,rfl⟩;have b1:=zG hw1;have b2:=zG hw2;have q1:=zQ hw1;have q2:=zQ hw2;have l1:=zL q1;have l2:=zL q2;have b12:zb w w2:=b1.trans (b2.mono (by omega));have B12:=zH b12;have Q1:=zH ((b2.block _ l1).trans q1);have Q2:=zH q2;have C1:=zH (fun W (hb:zb w2 W)=>sWf_any _ _ W (by omega) (HV.o.below (b12.trans (hb.mono (by omega)))));have C2:=zH (fun W (hb:zb w2 W)=>sRen_upto 1000000 (by omega) _ _ 0 zs At ct W (by omega) hpo (by omega) hzl (hzs.below (b12.trans (hb.mono (by omega)))) (HV.o.below (b12.trans (hb.mono (by omega)))));obtain⟨x0,x1,x2,x3⟩:=cells4t Q1.o;obtain⟨N,hN⟩:∃N,(Raw.node kd nm ps ts).size=N:=⟨_,rfl⟩;rw[hN] at C2 hsz1 ⊢;clear hv hA b1 b2 q1 q2 b12 hzs hpo hN;go_enter Tryz.func53,Tryz.ntmps53;go_wp2_with fail;refine(C1.o _ (zB _ _)).mono ?_;rintro e w3⟨⟨x,rfl⟩,b3⟩;clear x0 x1 x2 x3 hw1 hw2;have B3:=zH b3;by_cases hx:x=0
 ·subst hx;obtain⟨x0,x1,x2,x3⟩:=cells4t ((b3.block _ (by omega)).trans Q1.o);clear b3;go_wp2_with fail;refine(C2.o _ B3.o).mono ?_;rintro e w4⟨⟨k9,n9,p9,ts9,A9,c9,b9,rfl,hv9,hz9,hq9⟩,b4⟩;have b24:=B3.o.trans (b4.mono B3.o.size);have hs3:=B3.o.size;have hn9:=hv9.toV.name_le;have hc9:TreesAtP (fun b=>w3.heap.size<=b) w4 A9 ts9/\ts9.length<=c9:=by
   obtain⟨v0,v1,v2,v3,e,hP⟩:=hv9;cases e;rw[TreeP] at hP;obtain⟨_,_,_,_,A',c',e,h1,h2⟩:=hP;cases e;exact⟨h2,h1⟩
  obtain⟨s1,s2,s3,s4,g1,g2,g3,g4,⟨y0,y1,y2,y3⟩,⟨f0,f1,f2,f3⟩,hq,HZ⟩:=ren_ret (w:=w) (w2:=w2) (k:=k9) (p:=p9) (nm:=n9) (n:=N) b9 (show w.heap.size<=w1.heap.size by omega) (B12.o.trans (b24.mono (by omega))) ((b24.block _ l2).trans Q2.o) hn9 ⟨hc9.1.keep (fun _ _ _=>rfl) (zN _) (fun b _ hb=>by have hb:w3.heap.size<=b:=hb;show w1.heap.size<b;omega),hc9.2⟩ (by rw[Raw.size] at hz9;omega) hq9;have HQ:=zH hq;clear hq hv9 hc9 hz9 hq9 b4 b24 x0 x1 x2 x3;go_wp2_with fail;refine Zb (results_term2 rfl _ _ _ _ _ _ _ rfl HQ.o) ?_;exact HZ.o
 have hx1:(x != 0)=true:=by simpa using hx
 have hx2:(x == 0)=false:=by simpa using hx
 obtain⟨s1,s2,s3,s4,g1,g2,g3,g4,⟨y0,y1,y2,y3⟩,⟨f0,f1,f2,f3⟩,hq,HZ⟩:=ren_zero (w:=w) (w2:=w2) (n:=N) (show w.heap.size<=w1.heap.size by omega) (B12.o.trans (b3.mono (by omega))) ((b3.block _ l2).trans Q2.o) hsz1;have HQ:=zH hq;clear hq b3 hx;go_wp2_with fail;refine Zb (results_term2 rfl _ _ _ _ _ _ _ rfl HQ.o) ?_;exact HZ.o
end
section
open Go.RowKit Go.Maps
attribute [local go_sem ↓] Go.wp_at_zero Go.wp_at_succ
structure KdI(w:World)(T:Nat)(ks:List Int)(v:Value)(wr:World):Prop where
 tape:TapeI T wr
 oth:Oth T w wr
 own:wr.ownsRow w.heap.size 3 1 v ks.length (ints ks)
theorem KdI.ne{w wr:World}{T:Nat}{ks:List Int}{v:Value}(h:KdI w T ks v wr)(hT:T<w.heap.size):v.ownBlock=some T→False:=fun e=>by have:=(h.own.lt _ e).1;omega
theorem KdI.moved{w wr w2:World}{T:Nat}{ks:List Int}{v:Value}(h:KdI w T ks v wr)(hT:T<w.heap.size)(ho:Oth T wr w2)(t2:TapeI T w2):KdI w T ks v w2:=⟨t2,h.oth.trans ho,h.own.kept ho (Or.inr (h.ne hT))⟩
theorem KdI.below{w wr w2:World}{T:Nat}{ks:List Int}{v:Value}(h:KdI w T ks v wr)(hT:T<w.heap.size)(hb:Below wr.heap.size wr w2):KdI w T ks v w2:=h.moved hT (zE hb) (h.tape.below hb)
theorem KdI.step{w wr w9:World}{T:Nat}{ks:List Int}{v v':Value}{x:Int}{o:Obj}(h:KdI w T ks v wr)(hT:T<w.heap.size)(hg:(wr.alloc o).grownBy w9 v.ownBlock)(hown:w9.ownsRow w.heap.size 3 1 v' (ks.length+1) (ints ks++[.int .i64 x])):KdI w T (ks++[x]) v' w9:=by
 have hs:=h.oth.size;have key:∀b,b<w.heap.size→w9.heap[b]?=(wr.alloc o).heap[b]?:=fun b hb=>hg.block b (by simp;omega) (fun e=>by have:=(h.own.lt b e.symm).1;omega);have ht:=h.tape.below ((zB wr.heap.size wr).alloc (zN _) o);have e1:ints (ks++[x])=ints ks++[.int .i64 x]:=by simp[ints]
 refine⟨ht.like (fun b hb=>key b (by omega)),?_,by rw[e1,Zq];exact hown⟩;exact(h.oth.of_new (((zB wr.heap.size wr).alloc (zN _) o).mono hs)).of_new ⟨hg.os,hg.tape,hg.output,hg.size,key⟩
def kdTab:List Int:=[0,2,5]
theorem kdTab_cell(w:World)(r:Nat)(hr:r<3):(w.alloc (.cells #[.int .i64 0,.int .i64 2,.int .i64 5] 3)).cell? ⟨w.heap.size,r,none⟩=some (.int .i64 (kdTab.getD r 0)):=by
 have q:=zW w (.cells #[.int .i64 0,.int .i64 2,.int .i64 5] 3)
 match r,hr with
 |0,_=>exact zC q 0
 |1,_=>exact zC q 1
 |2,_=>exact zC q 2
def KindsAns(w:World)(T:Nat)(e:Ending)(w':World):Prop:=∃ks A c,e=.returned (.slice A ks.length c)∧ks.length≤5∧KdI w T ks (.slice A ks.length c) w'
theorem KdI.ints{w wr:World}{T:Nat}{ks:List Int}{A:Option Addr}{c:Nat}(h:KdI w T ks (.slice A ks.length c) wr):IntsP (fun b=>w.heap.size≤b) wr A ks:=intsP_own h.own
theorem mKinds_any(T:Nat)(w:World)(hT:TapeI T w) :
  Calls Tryz.prog 17 #[.pointer (some ⟨T,0,none⟩)] w (KindsAns w T):=by
 have hTl:=hT.lt;obtain⟨i0,hi,hz0,hz1,hz2⟩:=info_parts intInfo;have I0:Hid (KdI w T [] zS w):=zH ⟨hT,Oth.refl _ _,⟨by simp[ints],.inl ⟨rfl,rfl⟩⟩⟩;clear hT;go_enter Tryz.func17,Tryz.ntmps17;go_wp2_with fail;refine(tapeI_next T 3 w (by omega) (by omega) I0.o.tape).mono ?_;rintro e w1⟨⟨N,hN,rfl⟩,T1,o1⟩;obtain⟨ks0,A0,c0,hk0,I1⟩:∃(ks0:List Int)(A0:Option Addr)(c0:Nat),(ks0=[]/\A0=none/\c0=0)/\Hid (KdI w T ks0 (.slice A0 ks0.length c0) w1):=⟨[],none,0,⟨rfl,rfl,rfl⟩,zH (I0.o.moved hTl o1 T1)⟩;obtain⟨rfl,rfl,rfl⟩:=hk0;clear I0 T1 o1;go_wp2_with fail;go_loopw [3,4] (fun v i wr=>∃(j:Nat)(ks:List Int)(A:Option Addr)(c:Nat),i=zI (j:Int)/\ks.length+j<=2/\v=.slice A ks.length c/\Hid (KdI w T ks (.slice A ks.length c) wr)) (fun _ i _=>(intOf i).toNat);case atStart=>exact⟨N,[],none,0,rfl,by simp;omega,rfl,I1⟩
 obtain⟨j,ks,A,c,rfl,hkj,rfl,HI⟩:=hrel;clear I1;by_cases hj:j=0
 ·subst hj;go_wp2_with fail;refine(tapeI_next T 3 _ (by omega) (by omega) HI.o.tape).mono ?_;rintro e w1⟨⟨N,hN,rfl⟩,T1,o1⟩;obtain⟨ks0,A0,c0,hk0,I1⟩:∃ks0 A0 c0,(ks0.length<=2/\ks0=ks/\A0=A/\c0=c)/\Hid (KdI w T ks0 (.slice A0 ks0.length c0) w1):=⟨ks,A,c,⟨by omega,rfl,rfl,rfl⟩,zH (HI.o.moved hTl o1 T1)⟩;obtain⟨hk0,rfl,rfl,rfl⟩:=hk0;clear HI T1 o1 hkj;go_wp2_with fail;go_loopw [3,5] (fun v i wr=>∃(j:Nat)(ks:List Int)(A:Option Addr)(c:Nat),i=zI (j:Int)/\ks.length+j<=4/\v=.slice A ks.length c/\Hid (KdI w T ks (.slice A ks.length c) wr)) (fun _ i _=>(intOf i).toNat);case atStart=>exact⟨N,_,_,_,rfl,by omega,rfl,I1⟩
  obtain⟨j,ks,A,c,rfl,hkj,rfl,HI⟩:=hrel;clear I1;by_cases hj:j=0
  ·subst hj;go_wp2_with fail;refine(tapeI_next T 2 _ (by omega) (by omega) HI.o.tape).mono ?_;rintro e w1⟨⟨N,hN,rfl⟩,T1,o1⟩;obtain⟨ks0,A0,c0,hk0,I1⟩:∃ks0 A0 c0,(ks0.length<=4/\ks0=ks/\A0=A/\c0=c)/\Hid (KdI w T ks0 (.slice A0 ks0.length c0) w1):=⟨ks,A,c,⟨by omega,rfl,rfl,rfl⟩,zH (HI.o.moved hTl o1 T1)⟩;obtain⟨hk0,rfl,rfl,rfl⟩:=hk0;clear HI T1 o1 hkj;go_wp2_with fail;go_loopw [3,6] (fun v i wr=>∃(j:Nat)(ks:List Int)(A:Option Addr)(c:Nat),i=zI (j:Int)/\ks.length+j<=5/\v=.slice A ks.length c/\Hid (KdI w T ks (.slice A ks.length c) wr)) (fun _ i _=>(intOf i).toNat);case atStart=>exact⟨N,_,_,_,rfl,by omega,rfl,I1⟩
   obtain⟨j,ks,A,c,rfl,hkj,rfl,HI⟩:=hrel;clear I1;by_cases hj:j=0
   ·subst hj;go_wp2_with fail;go_ret;exact⟨ks,A,c,rfl,by omega,HI.o⟩
   have hj1:decide ((j:Int)>0)=true:=Zt (by omega);have hjw:IntKind.i64.wrap ((j:Int)-1)=((j-1:Nat):Int):=(by rw[Zi _ (by omega)];omega);obtain⟨lk,hlk⟩:∃lk,ks.length=lk:=⟨_,rfl⟩;have hlm:lk+1<=maxLen:=(by unfold maxLen;omega);have hl8:(lk+1)*8<=140737488355328:=(by omega);have hkj':=zH hkj;have HLK:=zH hlk;obtain⟨w2,hw2⟩:∃w2,wr.alloc (.cells #[zI 0,zI 2,zI 5] 3)=w2:=⟨_,rfl⟩;have b2:=zG hw2;have TAB:Hid (∀r,r<3->zc w2 wr.heap.size r (zI (kdTab.getD r 0))):=zH (fun r hr=>by rw[<-hw2];exact kdTab_cell wr r hr);have hs2:wr.heap.size<w2.heap.size:=(by rw[<-hw2];simp);have hsr:=HI.o.oth.size;have I2:=zH (HI.o.below hTl b2);rw[hlk];clear hlk hkj b2;go_wp2_with fail;refine(tapeI_next T 3 w2 (by omega) (by omega) I2.o.tape).mono ?_;rintro e w3⟨⟨r,hr,rfl⟩,T3,o3⟩;have I3:=zH (I2.o.moved hTl o3 T3);have yt:=(o3.cell (p:=⟨wr.heap.size,r,none⟩) (by simp only;omega) (by simp only;omega)).trans (TAB.o r hr);generalize kdTab.getD r 0=x at *;have hr1:(0:Int)<=(r:Int):=(by omega);have hr2:(r:Int)<3:=(by omega);have HOW:Hid (w3.ownsRow w.heap.size 3 1 (.slice A lk c) lk (ints ks)):=zH (by rw[<-HLK.o];exact I3.o.own);have hsz:=I3.o.oth.size;clear T3 o3 hw2;go_wp2_with (at_builtin;refine wpList_append_own_at _ rfl _ _ 22 rfl w.heap.size 3 i0 (zI 0) 1 8 Tryz.underlying22 hi hz0 hz1 hz2 rfl (by decide) _ _ _ rfl (HOW.o.alloc _) ⟨w3.heap.size,0,none⟩ 1 1 [zI x] rfl rfl (fun jj v hj=>ocells_new w3 _ rfl [zI x] 3 jj v hj) (by intro v hv;simp at hv;subst hv;rfl) hlm hl8 (oalloc_le hsz) ?_);intro v9 w9 hown9 hg9 _ _;obtain⟨A9,c9,rfl⟩:=oform hown9;have HN:Hid (KdI w T (ks++[x]) (.slice A9 (ks++[x]).length c9) w9):=zH (by
    have el:(ks++[(x:Int)]).length=lk+1:=(by rw[Zq,HLK.o];rfl);rw[el];exact I3.o.step hTl (by rw[HLK.o];exact hg9) (by rw[HLK.o];exact hown9))
   have HL9:Hid ((ks++[(x:Int)]).length=lk+1/\(ks++[(x:Int)]).length+(j-1)<=5):=zH (by
    have el:(ks++[(x:Int)]).length=lk+1:=(by rw[Zq,HLK.o];rfl);have h1:=hkj'.o;have h2:=HLK.o;omega)
   clear hown9 hg9;go_wp2_with fail;go_roundw;case rel=>exact⟨j-1,ks++[x],A9,c9,rfl,HL9.o.2,by rw[HL9.o.1],HN⟩
   case measure=>simp[intOf];omega
  have hj1:decide ((j:Int)>0)=true:=Zt (by omega);have hjw:IntKind.i64.wrap ((j:Int)-1)=((j-1:Nat):Int):=by rw[Zi _ (by omega)];omega
  obtain⟨lk,hlk⟩:∃lk,ks.length=lk:=⟨_,rfl⟩;have hlm:lk+1<=maxLen:=by unfold maxLen;omega
  have hl8:(lk+1)*8<=140737488355328:=by omega
  have hkj':=zH hkj;have HLK:=zH hlk;have HOW:Hid (wr.ownsRow w.heap.size 3 1 (.slice A lk c) lk (ints ks)):=zH (by rw[<-hlk];exact HI.o.own);have hsz:=HI.o.oth.size;rw[hlk];clear hlk hkj;go_wp2_with (at_builtin;refine wpList_append_own_at _ rfl _ _ 22 rfl w.heap.size 3 i0 (zI 0) 1 8 Tryz.underlying22 hi hz0 hz1 hz2 rfl (by decide) _ _ _ rfl (HOW.o.alloc _) ⟨wr.heap.size,0,none⟩ 1 1 [zI 1] rfl rfl (fun jj v hj=>ocells_new wr _ rfl [zI 1] 3 jj v hj) (by intro v hv;simp at hv;subst hv;rfl) hlm hl8 (oalloc_le hsz) ?_);intro v9 w9 hown9 hg9 _ _;obtain⟨A9,c9,rfl⟩:=oform hown9;have HN:Hid (KdI w T (ks++[1]) (.slice A9 (ks++[1]).length c9) w9):=zH (by
   have el:(ks++[(1:Int)]).length=lk+1:=(by rw[Zq,HLK.o];rfl);rw[el];exact HI.o.step hTl (by rw[HLK.o];exact hg9) (by rw[HLK.o];exact hown9))
  have HL9:Hid ((ks++[(1:Int)]).length=lk+1/\(ks++[(1:Int)]).length+(j-1)<=4):=zH (by
   have el:(ks++[(1:Int)]).length=lk+1:=(by rw[Zq,HLK.o];rfl);have h1:=hkj'.o;have h2:=HLK.o;omega)
  clear hown9 hg9;go_wp2_with fail;go_roundw;case rel=>exact⟨j-1,ks++[1],A9,c9,rfl,HL9.o.2,by rw[HL9.o.1],HN⟩
  case measure=>simp[intOf];omega
 have hj1:decide ((j:Int)>0)=true:=Zt (by omega);have hjw:IntKind.i64.wrap ((j:Int)-1)=((j-1:Nat):Int):=by rw[Zi _ (by omega)];omega
 obtain⟨lk,hlk⟩:∃lk,ks.length=lk:=⟨_,rfl⟩;have hlm:lk+1<=maxLen:=by unfold maxLen;omega
 have hl8:(lk+1)*8<=140737488355328:=by omega
 have hkj':=zH hkj;have HLK:=zH hlk;have HOW:Hid (wr.ownsRow w.heap.size 3 1 (.slice A lk c) lk (ints ks)):=zH (by rw[<-hlk];exact HI.o.own);have hsz:=HI.o.oth.size;rw[hlk];clear hlk hkj;go_wp2_with (at_builtin;refine wpList_append_own_at _ rfl _ _ 22 rfl w.heap.size 3 i0 (zI 0) 1 8 Tryz.underlying22 hi hz0 hz1 hz2 rfl (by decide) _ _ _ rfl (HOW.o.alloc _) ⟨wr.heap.size,0,none⟩ 1 1 [zI 2] rfl rfl (fun jj v hj=>ocells_new wr _ rfl [zI 2] 3 jj v hj) (by intro v hv;simp at hv;subst hv;rfl) hlm hl8 (oalloc_le hsz) ?_);intro v9 w9 hown9 hg9 _ _;obtain⟨A9,c9,rfl⟩:=oform hown9;have HN:Hid (KdI w T (ks++[2]) (.slice A9 (ks++[2]).length c9) w9):=zH (by
  have el:(ks++[(2:Int)]).length=lk+1:=by rw[Zq,HLK.o];rfl
  rw[el];exact HI.o.step hTl (by rw[HLK.o];exact hg9) (by rw[HLK.o];exact hown9))
 have HL9:Hid ((ks++[(2:Int)]).length=lk+1/\(ks++[(2:Int)]).length+(j-1)<=2):=zH (by
  have el:(ks++[(2:Int)]).length=lk+1:=by rw[Zq,HLK.o];rfl
  have h1:=hkj'.o;have h2:=HLK.o;omega)
 clear hown9 hg9;go_wp2_with fail;go_roundw;case rel=>exact⟨j-1,ks++[2],A9,c9,rfl,HL9.o.2,by rw[HL9.o.1],HN⟩
 case measure=>simp[intOf];omega
end
section
open Go.RowKit Go.Maps _root_.Lfc
attribute [local go_sem ↓] Go.wp_at_zero Go.wp_at_succ
def PartAns(w:World)(T n:Nat)(q:Nat→Prop)(e:Ending)(w':World):Prop :=
 (∃k nm p ts A c,e=.returned (.agg #[.int .i64 k,S nm,.int .i64 p,.slice A (List.length ts) c])∧TreeVP q w' (.node k nm p ts) (.agg #[.int .i64 k,S nm,.int .i64 p,.slice A (List.length ts) c])∧(Raw.node k nm p ts).size≤n∧(Raw.node k nm p ts).posB 1048576=true)∧TapeI T w'∧Oth T w w'
structure PtD(w:World)(T B n:Nat)(q:Nat→Prop)(wr:World):Prop where
 u:∃k nm p ts A c,wr.heap[B]?=some (.cells #[.int .i64 k,S nm,.int .i64 p,.slice A (List.length ts) c] 51 (0,0))∧TreeVP (fun b=>q b∧b≠B∧b≠B+1) wr (.node k nm p ts) (.agg #[.int .i64 k,S nm,.int .i64 p,.slice A (List.length ts) c])∧(Raw.node k nm p ts).size≤n∧(Raw.node k nm p ts).posB 1048576=true
 tape:TapeI T wr
 oth:Oth T w wr
 res:wr.heap[B+1]?=some (.cells #[.int .i64 0,S [],.int .i64 0,.slice none 0 0] 51 (0,0))
theorem RowP.getP{q:Nat→Prop}{w:World}:∀{ts:List Raw}{xs:List Value}(i:Nat)(h:i<ts.length),RowP q w ts xs→∃v0 v1 v2 v3,xs[i*4]?=some v0∧xs[i*4+1]?=some v1∧xs[i*4+2]?=some v2∧xs[i*4+3]?=some v3∧TreeP q w ts[i] v0 v1 v2 v3
 |[],_,_,h,_=>by simp at h
 |t :: r,xs,i,h,hr=>by
  rw[RowP] at hr;obtain⟨v0,v1,v2,v3,ys,rfl,ht,hr⟩:=hr
  match i with
  |0=>exact⟨v0,v1,v2,v3,rfl,rfl,rfl,rfl,ht⟩
  |i+1 =>
   obtain⟨u0,u1,u2,u3,h0,h1,h2,h3,hu⟩:=RowP.getP i (by simpa using h) hr;refine⟨u0,u1,u2,u3,?_,?_,?_,?_,hu⟩
   ·rw[show(i+1)*4=i*4+1+1+1+1 by omega];simpa using h0
   ·rw[show(i+1)*4+1=i*4+1+1+1+1+1 by omega];simpa using h1
   ·rw[show(i+1)*4+2=i*4+2+1+1+1+1 by omega];simpa using h2
   rw[show(i+1)*4+3=i*4+3+1+1+1+1 by omega];simpa using h3
theorem TreesAtP.at_{q:Nat→Prop}{w:World}{A:Option Addr}{ts:List Raw}(h:TreesAtP q w A ts){i:Nat}(hi:i<ts.length) :
  ∃b o k n p us B c,A=some ⟨b,o,none⟩∧b<w.heap.size∧q b∧ts[i]=.node k n p us∧w.cell? ⟨b,o+i*4,none⟩=some (.int .i64 k)∧w.cell? ⟨b,o+i*4+1,none⟩=some (S n)∧w.cell? ⟨b,o+i*4+2,none⟩=some (.int .i64 p)∧w.cell? ⟨b,o+i*4+3,none⟩=some (.slice B us.length c)∧TreeVP q w (.node k n p us) (.agg #[.int .i64 k,S n,.int .i64 p,.slice B us.length c]):=by
 obtain⟨b,o,hA,hlt,hqb,hts⟩:=h (by intro h0;rw[h0] at hi;simp at hi);obtain⟨xs,hrow,hcells⟩:=hts.row;have hx:=hrow.len;obtain⟨v0,v1,v2,v3,h0,h1,h2,h3,hP⟩:=RowP.getP i hi hrow;obtain⟨k,n,p,us,ht⟩:=Raw.ex ts[i];have hP':=hP;rw[ht,TreeP] at hP;obtain⟨rfl,rfl,_,rfl,B,c,rfl,_⟩:=hP;exact⟨b,o,k,n,p,us,B,c,hA,hlt,hqb,ht,hcells _ _ h0,hcells _ _ h1,hcells _ _ h2,hcells _ _ h3,_,_,_,_,rfl,by rw[←ht];exact hP'⟩
theorem PtD.down{w wr w5 s4:World}{T B n:Nat}{q:Nat→Prop}(hqT:∀b,q b→b≠T){k k1 p p1:Int}{nm n1:List UInt8}{ts us:List Raw}{A1:Option Addr}{c1 i:Nat}(h:PtD w T B n q wr)(hTB:T<B)(hwB:w.heap.size≤B)(hsz:(Raw.node k nm p ts).size≤n)(hpo:(Raw.node k nm p ts).posB 1048576=true)(hi:i<ts.length)(hti:ts[i]=.node k1 n1 p1 us)
  (hv:TreeVP (fun b=>q b∧b≠B∧b≠B+1) wr (.node k1 n1 p1 us) (.agg #[.int .i64 k1,S n1,.int .i64 p1,.slice A1 us.length c1])) (o5:Oth T wr w5) (t5:TapeI T w5) (ho:Oth B w5 s4) (hq:s4.heap[B]?=some (.cells #[.int .i64 k1,S n1,.int .i64 p1,.slice A1 us.length c1] 51 (0,0))):PtD w T B n q s4:=by
 have hs5:=o5.size;have hmem:=Raw.sizes_mem ts ts[i] (Ze _);have hres:=zL h.res;refine⟨⟨k1,n1,p1,us,A1,c1,hq,hv.keep (fun b hb hlt=>?_) (zR hs5 ho.size) (fun b _ hb=>hb),?_,?_⟩,t5.oth (by omega) ho,?_,?_⟩
 ·exact(ho.block b (by omega) (fun e=>hb.2.1 (zO e))).trans (o5.block b hlt (fun e=>hqT b hb.1 (zO e)))
 ·rw[←hti];rw[Raw.size] at hsz;omega
 ·rw[←hti];rw[Raw.posB,Za] at hpo;exact posBs_at _ ts hpo.2 i hi
 ·have h1:=h.oth.size;exact⟨ho.os.trans (o5.os.trans h.oth.os),ho.tape.trans (o5.tape.trans h.oth.tape),ho.output.trans (o5.output.trans h.oth.output),zR h1 (zR hs5 ho.size),fun b hb hn=>(ho.block b (by omega) (fun e=>by have:=zO e;omega)).trans ((o5.block b (by omega) hn).trans (h.oth.block b hb hn))⟩
 exact ho.heap (o5.heap h.res (by omega)) (by omega)
theorem mPart_any(q:Nat->Prop)(T vars n:Nat)(u:Raw)(vu:Value)(w:World)(hn:n<=90)(hvars:vars<=50)(hu:u.size<=n)(hpo:u.posB 1048576=true)(hT:TapeI T w)(hqT:∀b,q b->b≠T)(hqn:∀b,w.heap.size<=b->q b)(hv:TreeVP q w u vu) :
  Calls Tryz.prog 29 #[.pointer (some ⟨T,0,none⟩),vu,zI (vars:Int)] w (PartAns w T n q):=by
 have hTl:=hT.lt;obtain⟨i0,hi,hz0,hz1,hz2⟩:=info_parts intInfo;obtain⟨ku,nu,pu,us,hue⟩:=Raw.ex u;rw[hue] at hv hu hpo;obtain⟨Au,cu,rfl,hpu⟩:=hv.openT;obtain⟨w2,hw2⟩:∃w2,(w.alloc (.cells (zT ku nu pu Au us cu) 51)).alloc (.cells #[zI 0,S [],zI 0,zS] 51)=w2:=⟨_,rfl⟩;have b12:zb w w2:=by rw[<-hw2];exact((zB _ _).alloc (zN _) _).alloc (by simp) _
 have q1:w2.heap[w.heap.size]?=some (.cells (zT ku nu pu Au us cu) 51 (0,0)):=by rw[<-hw2];exact(zA _ _ _ (by simp)).trans (zW _ _)
 have q2:w2.heap[w.heap.size+1]?=some (.cells #[zI 0,S [],zI 0,zS] 51 (0,0)):=by
  rw[<-hw2];have:=zW (w.alloc (.cells (zT ku nu pu Au us cu) 51)) (.cells #[zI 0,S [],zI 0,zS] 51);simpa using this
 have D0:Hid (PtD w T w.heap.size n q w2):=zH ⟨⟨ku,nu,pu,us,Au,cu,q1,hv.keep (fun b _ hlt=>b12.block b hlt) b12.size (fun b hlt hb=>⟨hb,by omega,by omega⟩),hu,hpo⟩,hT.below b12,zE b12,q2⟩;clear hv hpu hT q1 q2 b12 hu hpo hue;go_enter Tryz.func29,Tryz.ntmps29;go_wp2_with fail;clear hw2;refine(tapeI_next T 4 w2 (by omega) (by omega) D0.o.tape).mono ?_;rintro e w3⟨⟨r,hr,rfl⟩,T3,o3⟩;have D1:Hid (PtD w T w.heap.size n q w3):=zH (by
  obtain⟨k,nm,p,ts,A,c,hq,hv,hsz,hpo⟩:=D0.o.u;exact⟨⟨k,nm,p,ts,A,c,o3.heap hq (by omega),hv.keep (fun b hb hlt=>o3.block b hlt (fun e=>hqT b hb.1 (zO e))) o3.size (fun b _ hb=>hb),hsz,hpo⟩,T3,D0.o.oth.trans o3,o3.heap D0.o.res (by omega)⟩)
 clear D0 T3 o3;go_upto_block 0 with fail;go_cut [7,8] (fun s7 s8 wx=>∃c:Nat,s7=zI (c:Int)/\c<=3/\Hid (PtD w T w.heap.size n q wx));case first =>
  go_wp2_with fail;go_loopw [7,8] (fun cr i wr=>∃j c:Nat,i=zI (j:Int)/\cr=zI (c:Int)/\j+c<=3/\Hid (PtD w T w.heap.size n q wr)) (fun _ i _=>(intOf i).toNat);case atStart=>exact⟨r,0,rfl,rfl,by omega,D1⟩
  obtain⟨j,c,rfl,rfl,hjc,HD⟩:=hrel;clear D1;obtain⟨k,nm,p,ts,A,ca,hq,hvt,hsz,hpo⟩:=HD.o.u;obtain⟨x0,x1,x2,x3⟩:=cells4t hq;have HQ:=zH hq;have HV:=zH hvt;have HSZ:=zJ hsz hpo;have hlen:ts.length<=90:=by have:=Raw.sizes_len ts;rw[Raw.size] at hsz;omega
  have hlt:=zL hq;clear hq hvt hsz hpo;by_cases hgo:0<j/\0<ts.length
  ·obtain⟨hj0,ht0⟩:=hgo;have hj1:decide ((j:Int)>0)=true:=Zt (by omega);have ht1:decide ((ts.length:Int)>0)=true:=Zt (by omega);have hjw:IntKind.i64.wrap ((j:Int)-1)=((j-1:Nat):Int):=(by rw[Zi _ (by omega)];omega);have hcw:IntKind.i64.wrap ((c:Int)+1)=((c+1:Nat):Int):=(by rw[Zi _ (by omega)];omega);have EL:Hid (∀w5 i,Oth T wr.drew w5->TapeI T w5->i<ts.length->∃b o k1 n1 p1 us B c1,A=some ⟨b,o,none⟩/\zc w5 w.heap.size 3 (.slice A ts.length ca)/\(zc w5 b (o+i*4) (zI k1)/\zc w5 b (o+i*4+1) (S n1)/\zc w5 b (o+i*4+2) (zI p1)/\zc w5 b (o+i*4+3) (.slice B (List.length us) c1)) /\
    ∃s1 s2 s3 s4,w5.setCell ⟨w.heap.size,0,none⟩ (zI k1)=s1/\s1.setCell ⟨w.heap.size,1,none⟩ (S n1)=s2/\s2.setCell ⟨w.heap.size,2,none⟩ (zI p1)=s3/\s3.setCell ⟨w.heap.size,3,none⟩ (.slice B (List.length us) c1)=s4 /\
    (zc w5 w.heap.size 0 (zI k)/\zc s1 w.heap.size 1 (S nm)/\zc s2 w.heap.size 2 (zI p)/\zc s3 w.heap.size 3 (.slice A ts.length ca)) /\
    (w5.frozen? ⟨w.heap.size,0,none⟩=false/\s1.frozen? ⟨w.heap.size,1,none⟩=false/\s2.frozen? ⟨w.heap.size,2,none⟩=false/\s3.frozen? ⟨w.heap.size,3,none⟩=false)/\Hid (PtD w T w.heap.size n q s4)):=zH (fun w5 i o5 t5 hi=>by
     have o5':Oth T wr w5:=⟨o5.os,o5.tape,o5.output,o5.size,o5.block⟩;have hA:TreesAtP (fun b=>q b/\b≠w.heap.size/\b≠w.heap.size+1) wr A ts:=by
      obtain⟨v0,v1,v2,v3,e,hP⟩:=HV.o;cases e;rw[TreeP] at hP;obtain⟨_,_,_,_,A',c',e,h1,h2⟩:=hP;cases e;exact h2
     obtain⟨b,o,k1,n1,p1,us,B,c1,hA1,hb,hqb,hti,d0,d1,d2,d3,hve⟩:=hA.at_ hi;have cc:∀j,w5.cell? ⟨b,j,none⟩=wr.cell? ⟨b,j,none⟩:=fun j=>o5'.cell (p:=⟨b,j,none⟩) hb (hqT b hqb.1);obtain⟨s1,s2,s3,s4,g1,g2,g3,g4,hy,hf,hq4,hot⟩:=tput4 (o5'.heap HQ.o (by omega)) (zI k1) (S n1) (zI p1) (.slice B us.length c1);exact⟨b,o,k1,n1,p1,us,B,c1,hA1,zC (o5'.heap HQ.o (by omega)) 3,⟨(cc _).trans d0,(cc _).trans d1,(cc _).trans d2,(cc _).trans d3⟩,s1,s2,s3,s4,g1,g2,g3,g4,hy,hf,zH (HD.o.down hqT (by omega) (zN _) HSZ.o.1 HSZ.o.2 hi hti hve o5' t5 hot hq4)⟩)
   have TX:=zH HD.o.tape;have hk:((k == 3)=true)\/((k == 3)=false):=(by cases(k == 3) <;> simp);rcases hk with g3 | g3;all_goals
    go_upto_region 7 with fail;go_region_law (go_simp;go_at_call 12;refine(tapeI_next T ts.length _ ht0 (by omega) (TX.o.below (zB _ _).drew)).mono ?_;rintro e w5⟨⟨i,hi2,rfl⟩,T5,o5⟩;obtain⟨b,o,k1,n1,p1,us,B,c1,hA1,y3w,⟨d0,d1,d2,d3⟩,s1,s2,s3,s4,e1,e2,e3,e4,⟨y0,y1,y2,y3⟩,⟨f0,f1,f2,f3⟩,HN⟩:=EL.o w5 i o5 T5 hi2;subst hA1;have hi3:=zP i;have hi4:(i:Int)<(ts.length:Int):=by omega);all_goals
     clear T5 o5;go_wp2_with fail;go_roundw;case rel=>first | exact⟨j-1,c+1,rfl,rfl,by omega,HN⟩ | exact⟨j-1,c,rfl,rfl,by omega,HN⟩
     case measure=>simp[intOf];omega
  have hstop:j=0\/(0<j/\ts.length=0):=by omega
  have HM:=HD;clear hgo;rcases hstop with rfl | ⟨hj0,ht0⟩
  ·go_wp2_with fail;go_meet;exact⟨c,rfl,by omega,HM⟩
  have hj1:decide ((j:Int)>0)=true:=Zt (by omega);obtain rfl:ts=[]:=Zz ht0;have ht1:decide (((([]:List Raw).length:Nat):Int)>0)=false:=by decide
  go_wp2_with fail;go_meet;exact⟨c,rfl,by omega,HM⟩
 obtain⟨c,rfl,hc3,HD⟩:=hcut;rename_i wr;obtain⟨k,nm,p,ts,A,ca,hq,hvt,hsz,hpo⟩:=HD.o.u;have HQ:=zH hq;have HV:=zH hvt;have HSZ:=zJ hsz hpo;have hlt:=zL hq;clear hq hvt hsz hpo D1;have HRES:=zH HD.o.res;have hrl:=zL HRES.o;have I0:Hid (KdI wc T [] zS wc):=zH ⟨HD.o.tape,Oth.refl _ _,⟨by simp[ints],.inl ⟨rfl,rfl⟩⟩⟩;have HOW0:=zH HD.o.oth;have hTr:T<wc.heap.size:=HD.o.tape.lt;have hvw:IntKind.i64.wrap ((vars:Int)+1)=((vars+1:Nat):Int):=by rw[Zi _ (by omega)];omega
 clear HD;go_wp2_with fail;go_loopw [9,10] (fun v i wr=>∃(j:Nat)(ks:List Int)(A':Option Addr)(c':Nat),i=zI (j:Int)/\j<=c/\ks.length<=0+j/\v=.slice A' ks.length c'/\Hid (KdI wc T ks (.slice A' ks.length c') wr)) (fun _ i _=>c-(intOf i).toNat);case atStart=>exact⟨0,_,_,_,rfl,by omega,by first | omega | simp,rfl,I0⟩
 obtain⟨j,ks,A',c',rfl,hjg,hkj,rfl,HI⟩:=hrel;clear I0;by_cases hj:j<c
 ·have hj1:decide ((j:Int)<(c:Int))=true:=Zt (by omega);obtain⟨lk,hlk⟩:∃lk,ks.length=lk:=⟨_,rfl⟩;have hlm:lk+1<=maxLen:=by unfold maxLen;omega
  have hl8:(lk+1)*8<=140737488355328:=by omega
  have HKJ:=zH hkj;have HLK:=zH hlk;have hsx:=HI.o.oth.size;rw[hlk];clear hlk hkj;go_wp2_with fail;refine(tapeI_next T (vars+1) _ (by omega) (by omega) HI.o.tape).mono ?_;rintro e w5⟨⟨x,hx,rfl⟩,T5,o5⟩;have I5:=zH (HI.o.moved hTr o5 T5);have HOW:Hid (w5.ownsRow wc.heap.size 3 1 (.slice A' lk c') lk (ints ks)):=zH (by rw[<-HLK.o];exact I5.o.own);have hsz5:=I5.o.oth.size;clear T5 o5;go_wp2_with (at_builtin;refine wpList_append_own_at _ rfl _ _ 22 rfl wc.heap.size 3 i0 (zI 0) 1 8 Tryz.underlying22 hi hz0 hz1 hz2 rfl (by decide) _ _ _ rfl (HOW.o.alloc _) ⟨w5.heap.size,0,none⟩ 1 1 [zI (x:Int)] rfl rfl (fun jj v hj=>ocells_new w5 _ rfl [zI (x:Int)] 3 jj v hj) (by intro v hv;simp at hv;subst hv;rfl) hlm hl8 (oalloc_le hsz5) ?_);intro v9 w9 hown9 hg9 _ _;obtain⟨A9,c9,rfl⟩:=oform hown9;have HN:Hid (KdI wc T (ks++[(x:Int)]) (.slice A9 (ks++[(x:Int)]).length c9) w9):=zH (by
   have el:(ks++[(x:Int)]).length=lk+1:=(by rw[Zq,HLK.o];rfl);rw[el];exact I5.o.step hTr (by rw[HLK.o];exact hg9) (by rw[HLK.o];exact hown9))
  have HL9:Hid ((ks++[(x:Int)]).length=lk+1/\(ks++[(x:Int)]).length<=0+(j+1)):=zH (by
   have el:(ks++[(x:Int)]).length=lk+1:=(by rw[Zq,HLK.o];rfl);have h1:=HKJ.o;have h2:=HLK.o;omega)
  clear hown9 hg9;go_wp2_with fail;go_roundw;case rel=>exact⟨j+1,ks++[(x:Int)],A9,c9,by go_num,by omega,HL9.o.2,by rw[HL9.o.1],HN⟩
  case measure=>simp[intOf];omega
 have hj1:decide ((j:Int)<(c:Int))=false:=Zu (by omega);have I0:Hid (KdI wc T ks (.slice A' ks.length c') wr):=HI;have hk3:ks.length<=3:=by omega
 clear HI hkj hjg;go_wp2_with fail;go_loopw [9,11] (fun v i wr=>∃(j:Nat)(ks:List Int)(A':Option Addr)(c':Nat),i=zI (j:Int)/\j<=12/\ks.length<=3+j/\v=.slice A' ks.length c'/\Hid (KdI wc T ks (.slice A' ks.length c') wr)) (fun _ i _=>12-(intOf i).toNat);case atStart=>exact⟨0,ks,A',c',rfl,by omega,by omega,rfl,I0⟩
 obtain⟨j,ks,A',c',rfl,hjg,hkj,rfl,HI⟩:=hrel;clear I0;by_cases hj:j<12
 ·have hj1:decide ((j:Int)<12)=true:=Zt (by omega);obtain⟨lk,hlk⟩:∃lk,ks.length=lk:=⟨_,rfl⟩;have hlm:lk+1<=maxLen:=by unfold maxLen;omega
  have hl8:(lk+1)*8<=140737488355328:=by omega
  have HKJ:=zH hkj;have HLK:=zH hlk;have hsz5:=HI.o.oth.size;have HOW:Hid (wr.ownsRow wc.heap.size 3 1 (.slice A' lk c') lk (ints ks)):=zH (by rw[<-hlk];exact HI.o.own);rw[hlk];clear hlk hkj;go_wp2_with (at_builtin;refine wpList_append_own_at _ rfl _ _ 22 rfl wc.heap.size 3 i0 (zI 0) 1 8 Tryz.underlying22 hi hz0 hz1 hz2 rfl (by decide) _ _ _ rfl (HOW.o.alloc _) ⟨wr.heap.size,0,none⟩ 1 1 [zI (j:Int)] rfl rfl (fun jj v hj=>ocells_new wr _ rfl [zI (j:Int)] 3 jj v hj) (by intro v hv;simp at hv;subst hv;rfl) hlm hl8 (oalloc_le hsz5) ?_);intro v9 w9 hown9 hg9 _ _;obtain⟨A9,c9,rfl⟩:=oform hown9;have HN:Hid (KdI wc T (ks++[(j:Int)]) (.slice A9 (ks++[(j:Int)]).length c9) w9):=zH (by
   have el:(ks++[(j:Int)]).length=lk+1:=(by rw[Zq,HLK.o];rfl);rw[el];exact HI.o.step hTr (by rw[HLK.o];exact hg9) (by rw[HLK.o];exact hown9))
  have HL9:Hid ((ks++[(j:Int)]).length=lk+1/\(ks++[(j:Int)]).length<=3+(j+1)):=zH (by
   have el:(ks++[(j:Int)]).length=lk+1:=(by rw[Zq,HLK.o];rfl);have h1:=HKJ.o;have h2:=HLK.o;omega)
  clear hown9 hg9;go_wp2_with fail;go_roundw;case rel=>exact⟨j+1,ks++[(j:Int)],A9,c9,by go_num,by omega,HL9.o.2,by rw[HL9.o.1],HN⟩
  case measure=>simp[intOf];omega
 have hj1:decide ((j:Int)<12)=false:=Zu (by omega);have BX:Hid (zk wr w.heap.size (zT k nm p A ts ca) 51):=zH (HI.o.oth.heap HQ.o (by omega));have RX:Hid (wr.heap[w.heap.size+1]?=some (.cells #[zI 0,S [],zI 0,zS] 51 (0,0))):=zH (HI.o.oth.heap HRES.o (by omega));have hvx:=HV.o.keep (fun b hb hlt=>HI.o.oth.block b hlt (fun e=>hqT b hb.1 (zO e))) HI.o.oth.size (fun b _ hb=>hb);have HVX:=zH hvx;have IX:=HI.o.ints;have hkl:ks.length<=20:=by omega
 have CR:=zH (sRename_any _ _ ks A' c' wr (by have:=HSZ.o.1;omega) HSZ.o.2 (by omega) IX.toO hvx.toV);have HOX:=zH (HOW0.o.trans HI.o.oth);have TX:=zH HI.o.tape;have hsx:=HI.o.oth.size;obtain⟨x0,x1,x2,x3⟩:=cells4t BX.o;clear hvx IX HI hkj hjg;go_wp2_with fail;refine CR.o.mono ?_;rintro e w6⟨⟨k9,n9,p9,ts9,A9,c9,b9,rfl,hv9,hz9,hq9⟩,b6⟩;obtain⟨w7,hw7⟩:∃w7,w6.alloc (.cells (zT k9 n9 p9 A9 ts9 c9) 51)=w7:=⟨_,rfl⟩;have b7:=zG hw7;have q7:=zQ hw7;have b67:zb wr w7:=b6.trans (b7.mono b6.size);have hs67:=b67.size;have H7:=zH hw7;have RES:Hid (∀(k' p':Int)(n':List UInt8)(ts':List Raw)(A'':Option Addr)(c'':Nat),TreeVP (fun b=>q b/\b≠w.heap.size+1) w7 (.node k' n' p' ts') (.agg (zT k' n' p' A'' ts' c''))->(Raw.node k' n' p' ts').size<=n->(Raw.node k' n' p' ts').posB 1048576=true->∃s1 s2 s3 s4,w7.setCell ⟨w.heap.size+1,0,none⟩ (zI k')=s1/\s1.setCell ⟨w.heap.size+1,1,none⟩ (S n')=s2/\s2.setCell ⟨w.heap.size+1,2,none⟩ (zI p')=s3/\s3.setCell ⟨w.heap.size+1,3,none⟩ (.slice A'' (List.length ts') c'')=s4 /\
  (zc w7 (w.heap.size+1) 0 (zI 0)/\zc s1 (w.heap.size+1) 1 (S [])/\zc s2 (w.heap.size+1) 2 (zI 0)/\zc s3 (w.heap.size+1) 3 zS) /\
  (w7.frozen? ⟨w.heap.size+1,0,none⟩=false/\s1.frozen? ⟨w.heap.size+1,1,none⟩=false/\s2.frozen? ⟨w.heap.size+1,2,none⟩=false/\s3.frozen? ⟨w.heap.size+1,3,none⟩=false) /\
  Hid (s4.heap[w.heap.size+1]?=some (.cells (zT k' n' p' A'' ts' c'') 51 (0,0)))/\Hid (PartAns w T n q (.returned (.agg (zT k' n' p' A'' ts' c''))) s4)):=zH (fun k' p' n' ts' A'' c'' hv' hz' hpp'=>by
   obtain⟨s1,s2,s3,s4,g1,g2,g3,g4,hy,hf,hq4,hot⟩:=tput4 ((b67.block _ (by omega)).trans RX.o) (zI k') (S n') (zI p') (.slice A'' (List.length ts') c'');refine⟨s1,s2,s3,s4,g1,g2,g3,g4,hy,hf,zH hq4,zH ⟨⟨k',n',p',ts',A'',c'',rfl,hv'.keep (fun b hb hlt=>hot.block b hlt (fun e=>hb.2 (zO e))) hot.size (fun b _ hb=>hb.1),hz',hpp'⟩,(TX.o.below b67).oth (by omega) hot,?_⟩⟩;exact Oth.of_new HOX.o ⟨hot.os.trans b67.os,hot.tape.trans b67.tape,hot.output.trans b67.output,zR hs67 hot.size,fun b hb=>(hot.block b (by omega) (fun e=>by have:=zO e;omega)).trans (b67.block b (by omega))⟩)
 have V1:Hid (TreeVP (fun b=>q b/\b≠w.heap.size+1) w7 (.node k9 n9 p9 ts9) (.agg (zT k9 n9 p9 A9 ts9 c9))):=zH (hv9.keep (fun b _ hlt=>b7.block b hlt) b7.size (fun b _ hb=>by have hb:wr.heap.size<=b:=hb;exact⟨hqn b (by omega),by omega⟩));have Z1:=zH (show(Raw.node k9 n9 p9 ts9).size<=n from zR hz9 HSZ.o.1);obtain⟨u0,u1,u2,u3⟩:=cells4t q7;have z:=cells4t ((b67.block _ (by omega)).trans BX.o);obtain⟨z0,z1,z2,z3⟩:=z;have HQ9:=zH hq9;clear hv9 hz9 hq9 b6 b7 q7 hw7;go_upto_region 18 with fail;rw[H7.o];clear H7 x0 x1 x2 x3;cases b9;case false =>
  have hv7:Hid (TreeVP (fun b=>q b/\b≠w.heap.size+1) w7 (.node k nm p ts) (.agg (zT k nm p A ts ca))):=zH (HVX.o.keep (fun b _ hlt=>b67.block b hlt) b67.size (fun b _ hb=>⟨hb.1,hb.2.2⟩));obtain⟨s1,s2,s3,s4,g1,g2,g3',g4,⟨y0,y1,y2,y3⟩,⟨f0,f1,f2,f3⟩,HQ4,HZ⟩:=RES.o k p nm ts A ca hv7.o HSZ.o.1 HSZ.o.2;clear b67 u0 u1 u2 u3;go_wp2_with fail;refine Zb (results_term rfl _ _ _ _ _ _ _ rfl HQ4.o) ?_;exact HZ.o
 case true =>
  obtain⟨s1,s2,s3,s4,g1,g2,g3',g4,⟨y0,y1,y2,y3⟩,⟨f0,f1,f2,f3⟩,HQ4,HZ⟩:=RES.o k9 p9 n9 ts9 A9 c9 V1.o Z1.o (HQ9.o rfl);clear b67 z0 z1 z2 z3;go_wp2_with fail;refine Zb (results_term rfl _ _ _ _ _ _ _ rfl HQ4.o) ?_;exact HZ.o
def scName(r:Nat):List UInt8:=if r=0 then [115] else [99]
theorem sc_cell(w:World)(r:Nat)(hr:r<2):(w.alloc (.cells #[.string ⟨#[115]⟩,.string ⟨#[99]⟩] 9)).cell? ⟨w.heap.size,r,none⟩=some (S (scName r)):=by
 have q:=zW w (.cells #[.string ⟨#[115]⟩,.string ⟨#[99]⟩] 9)
 match r,hr with
 |0,_=>exact zC q 0
 |1,_=>exact zC q 1
theorem scName_len(r:Nat):(scName r).length≤1000000:=by unfold scName;split <;> simp
theorem scName_head(r l:Nat):headB 4 0 (scName r) l=true:=by
 unfold scName headB;split <;> simp <;> decide
def ObjMade(d:Nat):Prop:=∀(T vars:Nat)(w:World),vars+d≤50→TapeI T w →
  Calls Tryz.prog 28 #[.pointer (some ⟨T,0,none⟩),.int .i64 (d:Int),.int .i64 (vars:Int)] w (MadeT w T (2 ^ (d+1)))
theorem mObj_any:∀(d:Nat),d<=4->ObjMade d:=by
 intro d;induction d using Nat.strongRecOn with
 |ind d ih0 =>
 intro hd4 T vars w hvd hT;have IH:=zH ih0;clear ih0;have hTl:=hT.lt;obtain⟨i0,hi,hz0,hz1,hz2⟩:=term_infoM;obtain⟨wa,hwa⟩:∃wa,w.alloc (.cells #[zI 0,S [],zI 0,zS] 51)=wa:=⟨_,rfl⟩;have ba:=zG hwa;have qa:=zQ hwa;have la:=zL qa;have QA:=zH qa;have OA:Hid (Oth T w wa):=zH (zE ba);have TA:=zH (hT.below ba);obtain⟨PP,hPP⟩:∃PP,2 ^ d=PP:=⟨_,rfl⟩;have hpw:2 ^ (d+1)=2*PP:=by rw[Nat.pow_succ,hPP];omega
 have hpp:1<=PP:=by rw[<-hPP];exact Nat.one_le_two_pow
 have IHD:Hid (0<d->∀(T vars:Nat)(w:World),vars+(d-1)<=50->TapeI T w->Calls Tryz.prog 28 #[.pointer (some ⟨T,0,none⟩),zI ((d-1:Nat):Int),zI (vars:Int)] w (MadeT w T PP)):=zH (fun h=>by
  have:=IH.o (d-1) (by omega) (by omega);unfold ObjMade at this;rwa[show d-1+1=d by omega,hPP] at this)
 have HPW:=zJ hpw hpp;clear hT ba qa hPP hpw hpp IH;go_enter Tryz.func28,Tryz.ntmps28;go_wp2_with fail;refine(tapeI_next T 6 wa (by omega) (by omega) TA.o).mono ?_;rintro e w1⟨⟨c,hc,rfl⟩,T1',o1'⟩;have T1:=zH T1';have O1:=zH o1';have hs1:=o1'.size;clear T1' o1' hwa;go_upto_block 0 with fail;go_cut [1,7] (fun s1 s7 wx=>s1=zI (d:Int)/\Hid (TapeI T wx)/\Hid (Oth T w1 wx));case first =>
  by_cases hA:0<d/\c=0
  ·obtain⟨hd0,rfl⟩:=hA;have g1:decide ((d:Int)>0)=true:=Zt (by omega);have hdw:IntKind.i64.wrap ((d:Int)-1)=((d-1:Nat):Int):=(by rw[Zi _ (by omega)];omega);have hvw:IntKind.i64.wrap ((vars:Int)+1)=((vars+1:Nat):Int):=(by rw[Zi _ (by omega)];omega);go_wp2_with fail;refine(IHD.o hd0 T (vars+1) w1 (by omega) T1.o).mono ?_;rintro e w2⟨⟨t2,v2,rfl,hv2,hzz,hm2⟩,T2,o2⟩;obtain⟨k2,n2,p2,ts2,ht2⟩:=Raw.ex t2;rw[ht2] at hv2;obtain⟨A2,c2,rfl,hp2⟩:=hv2.openT;obtain⟨w3,hw3⟩:∃w3,w2.alloc (.cells (zT k2 n2 p2 A2 ts2 c2) 51)=w3:=⟨_,rfl⟩;have b3:=zG hw3;have q3:=zQ hw3;obtain⟨s1,s2,s3,s4,g1',g2,g3,g4,⟨p0,p1,p2',p3⟩,⟨f0,f1,f2,f3⟩,hq,HZ⟩:=made_lam (P:=2 ^ (d+1)) hTl (OA.o.trans O1.o) (by omega) o2 b3 q3 (by rw[ht2];exact hp2) T2 hzz hm2 (O1.o.heap QA.o (by omega)) HPW.o.1;have HQ:=zH hq;clear hq hp2 hv2 T2 o2 b3 q3 hzz hm2 ht2;go_wp2_with fail;refine Zb (results_term rfl _ _ _ _ _ _ _ rfl HQ.o) ?_;exact HZ.o
  by_cases hB:0<d/\c<4
  ·obtain⟨hd0,hc4⟩:=hB;have g1:decide ((d:Int)>0)=true:=Zt (by omega);have g2:((c:Int) == 0)=false:=(by simp;omega);have g3:decide ((c:Int)<4)=true:=Zt (by omega);have hdw:IntKind.i64.wrap ((d:Int)-1)=((d-1:Nat):Int):=(by rw[Zi _ (by omega)];omega);clear hA;obtain⟨w2,hw2⟩:∃w2,w1.alloc (.cells #[.string ⟨#[115]⟩,.string ⟨#[99]⟩] 9)=w2:=⟨_,rfl⟩;have b2:=zG hw2;have SCN:Hid (∀r,r<2->zc w2 w1.heap.size r (S (scName r))):=zH (fun r hr=>by rw[<-hw2];exact sc_cell w1 r hr);have hs2:w1.heap.size<w2.heap.size:=(by rw[<-hw2];simp);have T2:=zH (T1.o.below b2);have O2:=zH (O1.o.trans (zE b2));clear b2;go_wp2_with fail;refine(tapeI_next T 2 w2 (by omega) (by omega) T2.o).mono ?_;rintro e w3⟨⟨r1,hr1,rfl⟩,T3',o3'⟩;have hs3:=o3'.size;have ys:=(o3'.cell (p:=⟨w1.heap.size,r1,none⟩) (by simp only;omega) (by simp only;omega)).trans (SCN.o r1 hr1);have hnn:=scName_len r1;obtain⟨w4,hw4⟩:∃w4,w3.alloc (.cells #[zI 4,S (scName r1),zI 0,zS] 51)=w4:=⟨_,rfl⟩;have b4:=zG hw4;have q4:=zQ hw4;have T4:=zH (T3'.below b4);have O3:=zH (O2.o.trans o3');have B4:=zH b4;have Q4:=zH q4;have H4:=zH hw4;have hi1:(0:Int)<=(r1:Int):=(by omega);have hi2:(r1:Int)<2:=(by omega);clear b4 q4 hw4 hw2 T3' o3' T2 SCN;go_upto_region 6 with fail;rw[H4.o];clear H4 ys;go_wp2_with fail;refine(tapeI_next T 2 w4 (by omega) (by omega) T4.o).mono ?_;rintro e w5⟨⟨r2,hr2,rfl⟩,T5',o5'⟩;have hw5:IntKind.i64.wrap (1+(r2:Int))=((r2+1:Nat):Int):=(by rw[Zi _ (by omega)];omega);have I0:Hid (MkT wa T w3.heap.size (w3.heap.size+1) PP 4 (scName r1) 0 [] none 0 [] w5):=zH (MkT.start O3.o rfl ((zE B4.o).trans o5') (o5'.heap Q4.o (by omega)) T5');obtain⟨N,hN⟩:∃N,r2+1=N:=⟨_,rfl⟩;rw[hN] at hw5;have hN2:N<=2:=(by omega);clear T5' o5' hN;go_upto_block 1 with fail;go_wp2_with fail;go_loopw [9] (fun i wr=>∃(j:Nat)(os:List Raw)(A:Option Addr)(c:Nat)(xs:List Value),j+os.length=N/\i=zI (j:Int)/\Hid (MkT wa T w3.heap.size (w3.heap.size+1) PP 4 (scName r1) 0 os A c xs wr)) (fun i _=>(intOf i).toNat);case atStart=>exact⟨N,[],none,0,[],by simp,rfl,I0⟩
   clear I0;obtain⟨j,os,A,cc,xs,hjn,rfl,HI⟩:=hrel;have hsb:=HI.o.size;by_cases hj:j=0
   ·subst hj;have HR:=zH HI.o.r;have hl:os.length<=2:=(by omega);obtain⟨u0,u1,u2,u3⟩:=cells4t HI.o.r;obtain⟨s1,s2,s3,s4,g1,g2,g3,g4,⟨p0,p1,p2,p3⟩,⟨f0,f1,f2,f3⟩,hq,HZ⟩:=HI.o.done (P:=2 ^ (d+1)) hTl OA.o QA.o (by omega) (Nat.lt_succ_self _) (by omega) (scName_len r1) hl HPW.o.1 HPW.o.2 (scName_head r1 _);have HQ:=zH hq;clear hq HI hl hjn;go_wp2_with fail;refine Zb (results_term rfl _ _ _ _ _ _ _ rfl HQ.o) ?_;exact HZ.o
   have hj1:decide ((j:Int)>0)=true:=Zt (by omega);have hjw:IntKind.i64.wrap ((j:Int)-1)=((j-1:Nat):Int):=(by rw[Zi _ (by omega)];omega);have TX:=zH HI.o.tape;have HOWN:=zH HI.o.own;have HR:=zH HI.o.r;have HH:=zH HI.o;have hbx:=HI.o.size;have HJN:=zH hjn;have hlo:os.length<=2:=(by omega);obtain⟨lo,hlo2⟩:∃lo,os.length=lo:=⟨_,rfl⟩;have hol:=zH hlo2;rw[hlo2] at HR HOWN hlo;have yx:zc wr w3.heap.size 3 (.slice A lo cc):=zC HR.o 3;have hlm:lo+1<=maxLen:=(by unfold maxLen;omega);have hl56:(lo+1)*56<=140737488355328:=(by omega);have hTr:T<w3.heap.size:=(by omega);have hrT:w3.heap.size≠T:=(by omega);have hTow:(Value.slice A lo cc).ownBlock=some T->False:=fun e=>(by have:=(HOWN.o.lt _ e).1;omega);have hwa3:wa.heap.size<=w3.heap.size:=(by omega);clear HI hlo2 hjn;go_upto_region 9 with fail;go_region_law (first
    |(go_simp;go_at_call 28;refine(IHD.o hd0 T vars _ (by omega) (TX.o.below (zB _ _).drew)).mono ?_;rintro e w9⟨⟨t9,v9,rfl,hv9,hz9,hm9⟩,T9,o9⟩;obtain⟨k9,n9,p9,ts9,ht9⟩:=Raw.ex t9;rw[ht9] at hv9;obtain⟨A9,c9,rfl,hp9⟩:=hv9.openT;have q9:=o9.heap HR.o hrT;have y9:zc w9 w3.heap.size 3 (.slice A lo cc):=zC q9 3;have y9a:∀o,(w9.alloc o).cell? ⟨w3.heap.size,3,none⟩=some (.slice A lo cc):=fun o=>zC ((zA _ _ _ (zL q9)).trans q9) 3;have hown9:=HOWN.o.drew.kept o9 (Or.inr hTow);have hs9':w3.heap.size+1<=w9.heap.size:=zR hbx o9.size)
    |(refine step_append_own_at _ (by rfl) _ _ 27 (by rfl) (w3.heap.size+1) 51 i0 (.agg #[zI 0,S [],zI 0,zS]) 4 56 Tryz.underlying27 hi hz0 hz1 hz2 rfl (by decide) _ _ _ (by rfl) (hown9.alloc _) ⟨w9.heap.size,0,none⟩ 1 1 [zI k9,S n9,zI p9,.slice A9 ts9.length c9] (by rfl) (by rfl) (fun j u h=>ocells_new w9 _ rfl [zI k9,S n9,zI p9,.slice A9 ts9.length c9] _ j u h) oneCellT hlm hl56 (oalloc_le hs9') ?_;intro v' w10 hown10 hg10 hloc10;obtain⟨A10,c10,rfl⟩:=oform hown10;obtain⟨hr10,hfin⟩:=HH.o.step hTr (Nat.lt_succ_self _) hwa3 o9 T9 (by rw[ht9];exact hp9) hz9 hm9 (by rw[hol.o];exact hown10) (by rw[hol.o];exact hg10) (by rw[hol.o];exact oalloc_loc hloc10);rw[hol.o] at hr10 hfin;have y10:=(zC hr10 3:zc w10 w3.heap.size 3 (.slice A lo cc));have f10:=zF hr10 3))
   all_goals
    have HNX:Hid (MkT wa T w3.heap.size (w3.heap.size+1) PP 4 (scName r1) 0 (os++[t9]) A10 c10 (xs++[zI k9,S n9,zI p9,.slice A9 ts9.length c9]) (w10.setCell ⟨w3.heap.size,3,none⟩ (.slice A10 (lo+1) c10))):=zH (hfin A10 c10 rfl);have HJ2:Hid (j-1+(os++[t9]).length=N):=zH (by
     have:=HJN.o;rw[Zq];simp only[List.length_singleton];omega)
    clear hfin hp9 o9 hown9 hown10 hg10 ht9 hz9 hm9 T9;go_wp2_with fail;go_roundw;case rel=>exact⟨j-1,os++[t9],A10,c10,_,HJ2.o,rfl,HNX⟩
    case measure=>simp[intOf];omega
  have hvv:vars<=50:=by omega
  by_cases hc4:c=4
  ·subst hc4;have HX:Hid (∀wx,TapeI T wx->Oth T w1 wx->TapeI T wx/\Oth T w1 wx):=zH (fun _ h h'=>⟨h,h'⟩);have hdd:(d=0/\decide ((d:Int)>0)=false)\/(0<d/\decide ((d:Int)>0)=true):=by
    rw[Zf,Zd];omega
   clear hA hB;rcases hdd with⟨hd0,g1⟩ | ⟨hd0,g1⟩;all_goals
    go_wp2_with fail;refine(tapeI_next T 3 w1 (by omega) (by omega) T1.o).mono ?_;rintro e w2⟨⟨r,hr,rfl⟩,T2,o2⟩;by_cases hr0:r=0
    ·subst hr0;obtain⟨s1,s2,s3,s4,g1',g2,g3,g4,⟨p0,p1,p2',p3⟩,⟨f0,f1,f2,f3⟩,hq,HZ⟩:=made_leaf (P:=2 ^ (d+1)) (k:=4) (p:=0) (nm:=[122]) hTl ((OA.o.trans O1.o).trans o2) T2 (o2.heap (O1.o.heap QA.o (by omega)) (by omega)) (by omega) (by simp) (by have:=HPW.o;omega) (by decide);have HQ:=zH hq;clear hq T2 o2;go_wp2_with fail;refine Zb (results_term rfl _ _ _ _ _ _ _ rfl HQ.o) ?_;exact HZ.o
    have hr1:((r:Int) == 0)=false:=(by simp;omega);have HM:=zJ T2 o2;clear T2 o2 hr0;go_wp2_with fail;go_meet;exact⟨by first | rfl | (rw[hd0];rfl),zH HM.o.1,zH HM.o.2⟩
  have g4:((c:Int) == 4)=false:=by simp;omega
  by_cases hd0:d=0
  ·have g1:decide ((d:Int)>0)=false:=Zu (by omega);clear hA hB hc4;go_wp2_with fail;go_meet;exact⟨by first | rfl | (rw[hd0];rfl),T1,zH (Oth.refl _ _)⟩
  have g1:decide ((d:Int)>0)=true:=Zt (by omega);obtain rfl:c=5:=by omega
  clear hA hB hc4;go_wp2_with fail;go_meet;exact⟨by first | rfl | (rw[hd0];rfl),T1,zH (Oth.refl _ _)⟩
 obtain⟨rfl,T2,O2'⟩:=hcut;have O2:=zH (O1.o.trans O2'.o);have hsc:=O2'.o.size;have hdw:0<d->IntKind.i64.wrap ((d:Int)-1)=((d-1:Nat):Int):=fun h=>by rw[Zi _ (by omega)];omega
 have HDW:=zH hdw;have hvw:IntKind.i64.wrap ((vars:Int)+1)=((vars+1:Nat):Int):=by rw[Zi _ (by omega)];omega
 clear hdw O2' O1 T1;go_wp2_with fail;refine(tapeI_next T (vars+1) wc (by omega) (by omega) T2.o).mono ?_;rintro e w3⟨⟨r1,hr1,rfl⟩,T3',o3'⟩;have hs3:=o3'.size;obtain⟨w4,hw4⟩:∃w4,w3.alloc (.cells #[zI 5,S [],zI (r1:Int),zS] 51)=w4:=⟨_,rfl⟩;have b4:=zG hw4;have q4:=zQ hw4;have T4:=zH (T3'.below b4);have O3:=zH (O2.o.trans o3');have B4:=zH b4;have Q4:=zH q4;have H4:=zH hw4;clear b4 q4 hw4 T3' o3' T2;go_upto_region 14 with fail;rw[H4.o];clear H4;go_wp2_with fail;refine(tapeI_next T 2 w4 (by omega) (by omega) T4.o).mono ?_;rintro e w5⟨⟨N,hr2,rfl⟩,T5',o5'⟩;have I0:Hid (MkT wa T w3.heap.size (w3.heap.size+1) PP 5 [] (r1:Int) [] none 0 [] w5):=zH (MkT.start O3.o rfl ((zE B4.o).trans o5') (o5'.heap Q4.o (by omega)) T5');have hN2:N<=2:=by omega
 clear T5' o5';go_wp2_with fail;go_loopw [11] (fun i wr=>∃(j:Nat)(os:List Raw)(A:Option Addr)(c:Nat)(xs:List Value),j+os.length=N/\i=zI (j:Int)/\Hid (MkT wa T w3.heap.size (w3.heap.size+1) PP 5 [] (r1:Int) os A c xs wr)) (fun i _=>(intOf i).toNat);case atStart=>exact⟨N,[],none,0,[],by simp,rfl,I0⟩
 clear I0;obtain⟨j,os,A,cc,xs,hjn,rfl,HI⟩:=hrel;have hsb:=HI.o.size;by_cases hj:j=0\/d=0
 ·rcases(show j=0\/(0<j/\d=0) by omega) with rfl | ⟨hj0,hd0⟩
  ·clear hj;have HR:=zH HI.o.r;have hl:os.length<=2:=(by omega);obtain⟨u0,u1,u2,u3⟩:=cells4t HI.o.r;obtain⟨s1,s2,s3,s4,g1,g2,g3,g4,⟨p0,p1,p2,p3⟩,⟨f0,f1,f2,f3⟩,hq,HZ⟩:=HI.o.done (P:=2 ^ (d+1)) hTl OA.o QA.o (by omega) (Nat.lt_succ_self _) (by omega) (by simp) hl HPW.o.1 HPW.o.2 (by simp[headB]);have HQ:=zH hq;clear hq HI hl hjn;go_wp2_with fail;refine Zb (results_term rfl _ _ _ _ _ _ _ rfl HQ.o) ?_;exact HZ.o
  have hj1:decide ((j:Int)>0)=true:=Zt (by omega);have hd1:decide ((d:Int)>0)=false:=Zu (by omega);clear hj;have HR:=zH HI.o.r;have hl:os.length<=2:=by omega
  obtain⟨u0,u1,u2,u3⟩:=cells4t HI.o.r;obtain⟨s1,s2,s3,s4,g1,g2,g3,g4,⟨p0,p1,p2,p3⟩,⟨f0,f1,f2,f3⟩,hq,HZ⟩:=HI.o.done (P:=2 ^ (d+1)) hTl OA.o QA.o (by omega) (Nat.lt_succ_self _) (by omega) (by simp) hl HPW.o.1 HPW.o.2 (by simp[headB]);have HQ:=zH hq;clear hq HI hl hjn;go_wp2_with fail;refine Zb (results_term rfl _ _ _ _ _ _ _ rfl HQ.o) ?_;exact HZ.o
 have hd0:0<d:=by omega
 have hj1:decide ((j:Int)>0)=true:=Zt (by omega);have hd1:decide ((d:Int)>0)=true:=Zt (by omega);have hdw:=HDW.o hd0;have hjw:IntKind.i64.wrap ((j:Int)-1)=((j-1:Nat):Int):=by rw[Zi _ (by omega)];omega
 have TX:=zH HI.o.tape;have HOWN:=zH HI.o.own;have HR:=zH HI.o.r;have HH:=zH HI.o;have hbx:=HI.o.size;have HJN:=zH hjn;have hlo:os.length<=2:=by omega
 obtain⟨lo,hlo2⟩:∃lo,os.length=lo:=⟨_,rfl⟩;have hol:=zH hlo2;rw[hlo2] at HR HOWN hlo;have yx:zc wr w3.heap.size 3 (.slice A lo cc):=zC HR.o 3;have hlm:lo+1<=maxLen:=by unfold maxLen;omega
 have hl56:(lo+1)*56<=140737488355328:=by omega
 have hTr:T<w3.heap.size:=by omega
 have hrT:w3.heap.size≠T:=by omega
 have hTow:(Value.slice A lo cc).ownBlock=some T->False:=fun e=>by have:=(HOWN.o.lt _ e).1;omega
 have hwa3:wa.heap.size<=w3.heap.size:=by omega
 clear HI hlo2 hjn;go_upto_region 17 with fail;go_region_law (first
  |(go_simp;go_at_call 28;refine(IHD.o hd0 T vars _ (by omega) (TX.o.below (zB _ _).drew)).mono ?_;rintro e w9⟨⟨t9,v9,rfl,hv9,hz9,hm9⟩,T9,o9⟩;obtain⟨k9,n9,p9,ts9,ht9⟩:=Raw.ex t9;rw[ht9] at hv9;obtain⟨A9,c9,rfl,hp9⟩:=hv9.openT;have q9:=o9.heap HR.o hrT;have y9:zc w9 w3.heap.size 3 (.slice A lo cc):=zC q9 3;have y9a:∀o,(w9.alloc o).cell? ⟨w3.heap.size,3,none⟩=some (.slice A lo cc):=fun o=>zC ((zA _ _ _ (zL q9)).trans q9) 3;have hown9:=HOWN.o.drew.kept o9 (Or.inr hTow);have hs9':w3.heap.size+1<=w9.heap.size:=zR hbx o9.size)
  |(refine step_append_own_at _ (by rfl) _ _ 27 (by rfl) (w3.heap.size+1) 51 i0 (.agg #[zI 0,S [],zI 0,zS]) 4 56 Tryz.underlying27 hi hz0 hz1 hz2 rfl (by decide) _ _ _ (by rfl) (hown9.alloc _) ⟨w9.heap.size,0,none⟩ 1 1 [zI k9,S n9,zI p9,.slice A9 ts9.length c9] (by rfl) (by rfl) (fun j u h=>ocells_new w9 _ rfl [zI k9,S n9,zI p9,.slice A9 ts9.length c9] _ j u h) oneCellT hlm hl56 (oalloc_le hs9') ?_;intro v' w10 hown10 hg10 hloc10;obtain⟨A10,c10,rfl⟩:=oform hown10;obtain⟨hr10,hfin⟩:=HH.o.step hTr (Nat.lt_succ_self _) hwa3 o9 T9 (by rw[ht9];exact hp9) hz9 hm9 (by rw[hol.o];exact hown10) (by rw[hol.o];exact hg10) (by rw[hol.o];exact oalloc_loc hloc10);rw[hol.o] at hr10 hfin;have y10:=(zC hr10 3:zc w10 w3.heap.size 3 (.slice A lo cc));have f10:=zF hr10 3))
 all_goals
  have HNX:Hid (MkT wa T w3.heap.size (w3.heap.size+1) PP 5 [] (r1:Int) (os++[t9]) A10 c10 (xs++[zI k9,S n9,zI p9,.slice A9 ts9.length c9]) (w10.setCell ⟨w3.heap.size,3,none⟩ (.slice A10 (lo+1) c10))):=zH (hfin A10 c10 rfl);have HJ2:Hid (j-1+(os++[t9]).length=N):=zH (by
   have:=HJN.o;rw[Zq];simp only[List.length_singleton];omega)
  clear hfin hp9 o9 hown9 hown10 hg10 ht9 hz9 hm9 T9;go_wp2_with fail;go_roundw;case rel=>exact⟨j-1,os++[t9],A10,c10,_,HJ2.o,rfl,HNX⟩
  case measure=>simp[intOf];omega
end
end Go.Proofs.YtadjpadieljjlaaGreat
