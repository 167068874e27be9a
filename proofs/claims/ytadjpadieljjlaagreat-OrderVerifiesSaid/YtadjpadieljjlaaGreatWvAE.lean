/- Parts of the proof that no input makes the law false: OrPath1, OrPath2, TreeP, OwnTerm, OrLink. -/
import Derived.Laws.AppendOwn
import Derived.Laws.OwnMore
import Derived.Test.YtadjpadieljjlaaGreatWvAD
set_option linter.unusedVariables false
set_option linter.unusedSimpArgs false
set_option maxRecDepth 100000
set_option maxHeartbeats 32000000
namespace Go.Proofs.YtadjpadieljjlaaGreat
section
open Go.RowKit Go.Maps _root_.Lfc
def PtAns(w0:World)(ks:List Int)(A0:Option Addr)(c0:Nat)(kt pt:Int)(nt:List UInt8)(At:Option Addr)(lt ct B1 B2 B3 B4 base:Nat)(W:World)(path:List Int)(A:Option Addr)(r:Option (List Int))(e:Ending)(w':World):Prop :=
 ∃A' c',PtK B3 W A w' A'∧((r=none∧e=.returned (.bool false)∧PtS w0 ks A0 c0 kt pt nt At lt ct B1 B2 B3 B4 base w' path A' c')∨(∃q,r=some q∧e=.returned (.bool true)∧PtS w0 ks A0 c0 kt pt nt At lt ct B1 B2 B3 B4 base w' (path++q) A' c'))
theorem ptWalk_upto(w0:World)(ks:List Int)(A0:Option Addr)(c0:Nat)(kt pt:Int)(nt:List UInt8)(At:Option Addr)(zs:List Raw)(lt ct B1 B2 B3 B4 base:Nat)(t:Raw)(hlt:lt=zs.length)(htd:t=.node kt nt pt zs)(hks:ks.length<=1000000)(hA0:IntsO w0 A0 ks)(hto:t.obj=true)(htv:TreeV w0 t (.agg #[zI kt,S nt,zI pt,.slice At lt ct]))(m:Nat)(hm:m<=1000000) :
  ∀(s:Raw)(vs:Value)(cr:Nat)(W:World)(path:List Int)(A:Option Addr)(c:Nat),s.size<=m->cr+s.size<=1000000->path.length+s.size<=2000000->s.obj=true->TreeV w0 s vs->PtS w0 ks A0 c0 kt pt nt At lt ct B1 B2 B3 B4 base W path A c ->
  Calls Tryz.prog 44 #[vs,zI (cr:Int),.pointer (some ⟨B1,0,none⟩),.pointer (some ⟨B2,0,none⟩),.pointer (some ⟨B3,0,none⟩),.pointer (some ⟨B4,0,none⟩)] W
   (PtAns w0 ks A0 c0 kt pt nt At lt ct B1 B2 B3 B4 base W path A (Raw.pth ks t s cr)):=by
 induction m with
 |zero=>intro s vs cr W path A c h;have:=s.size_pos;omega
 |succ m ih =>
  intro s vs cr W path A c hsz hcs hps hso hv hS;have he:=enters_path;have HV:=zH hv;have HSO:=zH hso;obtain⟨kd,nm,ps,xs⟩:=s;obtain⟨As,cs,rfl,hc,hA⟩:=hv.open_;simp only[Raw.size] at hsz hcs hps;have hlen:=Raw.sizes_len xs;obtain⟨i0,hi,hz0,hz1,hz2⟩:=info_parts intInfo;obtain⟨w1,hw1⟩:∃w1,W.alloc (.cells (zT kd nm ps As xs cs) 51)=w1:=⟨_,rfl⟩;have bW1:=zG hw1;have q1:=zQ hw1;have l1:=zL q1;have hn:=hS.n;have hH3:W.heap.size≠B3:=by omega
  have hHA:some W.heap.size≠A.map (·.block):=fun e=>by have:=(hS.blk e.symm).2;omega
  have S1:=zH (hS.wide bW1);have Q1:=zH q1;have IH:=zH (ih (by omega));have HA:=zH hA;have HTV0:=zH htv;obtain⟨y0,y1,y2,y3⟩:=cells4t q1;obtain⟨t0,t1,t2,t3⟩:=cells4t S1.o.b1;have c2:=zC S1.o.b2 0;simp at c2;have CS:=zH (oStands_any (.node kd nm ps xs) t _ _ cr ks A0 c0 w1 (by omega) hks (by rw[Raw.size];omega) HSO.o hto (hA0.below S1.o.below) (HV.o.below S1.o.below) (htv.below S1.o.below));have CP:=zH (fun w2 (h2:zb w1 w2)=>oPasses_any ks A0 c0 cr (.node kd nm ps xs) _ w2 (by omega) hks (hA0.below (S1.o.wide h2).below) (HV.o.below (S1.o.wide h2).below) HSO.o);obtain⟨st,hst⟩:∃st,Raw.stands ks cr (.node kd nm ps xs) t=st:=⟨_,rfl⟩;obtain⟨pa,hpa⟩:∃pa,Raw.pas ks cr (.node kd nm ps xs)=pa:=⟨_,rfl⟩;rw[hst] at CS;rw[hpa] at CP;have HS0:=zH hst;have HP0:=zH hpa;clear ih hv hA htv hst hpa q1 hso htd;clear hlt;cases st
  ·cases pa
   ·have HRES:=zH (show Raw.pth ks t (.node kd nm ps xs) cr=none by rw[Raw.pth,if_neg (by rw[HS0.o];decide),if_pos HP0.o]);go_enter Tryz.func44,Tryz.ntmps44;go_wp2_with fail;refine CS.o.mono ?_;rintro e w2⟨rfl,b2⟩;obtain⟨y0,y1,y2,y3⟩:=cells4t ((b2.block _ l1).trans Q1.o);have c2:=zC (S1.o.wide b2).b2 0;simp at c2;go_wp2_with fail;refine(CP.o _ b2).mono ?_;rintro e w3⟨rfl,b3⟩;have b13:=b2.trans (b3.mono b2.size);have HN:Hid (PtAns w0 ks A0 c0 kt pt nt At lt ct B1 B2 B3 B4 base W path A (Raw.pth ks t (.node kd nm ps xs) cr) (.returned (.bool false)) w3):=zH ⟨A,c,(PtK.wide A bW1).trans (PtK.wide A b13),.inl ⟨HRES.o,rfl,S1.o.wide b13⟩⟩;go_wp2_with fail;go_ret;exact HN.o
   go_enter Tryz.func44,Tryz.ntmps44;go_wp2_with fail;refine CS.o.mono ?_;rintro e w2⟨rfl,b2⟩;clear y0 y1 y2 y3 c2 t0 t1 t2 t3;obtain⟨y0,y1,y2,y3⟩:=cells4t ((b2.block _ l1).trans Q1.o);have c2:=zC (S1.o.wide b2).b2 0;simp at c2;go_wp2_with fail;refine(CP.o _ b2).mono ?_;rintro e w3⟨rfl,b3⟩;have b13:=b2.trans (b3.mono b2.size);have SB:=S1.o.wide b13;clear y0 y1 y2 y3 c2 b2 b3 CS CP hw1;obtain⟨y0,y1,y2,y3⟩:=cells4t ((b13.block _ l1).trans Q1.o);by_cases hk3:kd=3
   ·have hkb:(kd == 3)=true:=(by simp[hk3]);have hwc:IntKind.i64.wrap ((cr:Int)+1)=((cr+1:Nat):Int):=(by rw[Zi _ (by omega)];omega);have HRES:=zH (show Raw.pth ks t (.node kd nm ps xs) cr=Raw.pths ks t xs (cr+1) 0 by rw[Raw.pth,if_neg (by rw[HS0.o];decide),if_neg (by rw[HP0.o];decide),if_pos hk3]);clear HS0 HP0 hk3;go_wp2_with fail;go_loopw [25] (fun i wr=>∃(j:Nat)(A':Option Addr)(c':Nat),j<=xs.length/\i=zI (j:Int)/\Hid (Raw.pths ks t xs (cr+1) 0=Raw.pths ks t (xs.drop j) (cr+1) (j:Int))/\Hid (PtS w0 ks A0 c0 kt pt nt At lt ct B1 B2 B3 B4 base wr path A' c')/\Hid (PtK B3 w1 A wr A')) (fun i _=>xs.length-(intOf i).toNat);case atStart=>exact⟨0,A,c,by omega,rfl,zH rfl,zH SB,zH (PtK.wide A b13)⟩
    obtain⟨j,Ar,cr',hj,rfl,HQ,HS,HK⟩:=hrel;have hsr:=HK.o.size;have hqr:=(HK.o.kept W.heap.size l1 hH3 hHA).trans Q1.o;obtain⟨y0,y1,y2,y3⟩:=cells4t hqr;by_cases hlt:j<xs.length
    ·obtain⟨b,o,k1,n1,p1,us,B,cc1,rfl,hb,ht,d0,d1,d2,d3,hcu,hB,hT⟩:=HA.o.at_ hlt;have hbw:=HS.o.below;have f0:=(hbw.cell (p:=⟨b,o+j*4,none⟩) hb).trans d0;have f1:=(hbw.cell (p:=⟨b,o+j*4+1,none⟩) hb).trans d1;have f2:=(hbw.cell (p:=⟨b,o+j*4+2,none⟩) hb).trans d2;have f3:=(hbw.cell (p:=⟨b,o+j*4+3,none⟩) hb).trans d3;have hi0:=zP j;have hi1:(j:Int)<(xs.length:Int):=(by omega);have hmem:=Raw.sizes_mem xs xs[j] (Ze _);obtain⟨wa,hwa⟩:∃wa,wr.alloc (.cells (zT k1 n1 p1 B us cc1) 51)=wa:=⟨_,rfl⟩;have ba:=zG hwa;have qa:=zQ hwa;have la:=zL qa;have SA:=zH (HS.o.wide ba);have HB0:Hid (∀g,Ar.map (·.block)=some g->g<wr.heap.size):=zH (fun g e=>(HS.o.blk e).2);have KA:=zH (HK.o.trans (PtK.wide Ar ba));have QA:=zH qa;have HQ2:=zH (HQ.o.trans (pths_drop hlt));have HWA:=zH hwa;have HTV:=zH hT;have z3:=zC SA.o.b3 0;simp at z3;have hnb:=SA.o.n;have hlm:path.length+1<=maxLen:=(by unfold maxLen;omega);have hl8:(path.length+1)*8<=140737488355328:=(by omega);clear hwa ba qa HQ HS hT hB ht d0 d1 d2 d3 hbw;go_upto_region 8 with fail;rw[HWA.o];clear HWA f0 f1 f2 f3;go_wp2_with (at_builtin;refine wpList_append_own_at _ rfl _ _ 22 rfl base 3 i0 (zI 0) 1 8 Tryz.underlying22 hi hz0 hz1 hz2 rfl (by decide) _ _ _ rfl (SA.o.own.alloc _) ⟨wa.heap.size,0,none⟩ 1 1 [zI (j:Int)] rfl rfl (fun jj v hj=>ocells_new wa _ rfl [zI (j:Int)] 3 jj v hj) (by intro v hv;simp at hv;subst hv;rfl) hlm hl8 (by simp;omega) ?_);intro v9 w9 hown9 hg9 _ hloc9;obtain⟨A9,c9,rfl⟩:=oform hown9;have hg:wa.grownBy w9 (Ar.map (·.block)):=by
      have h:=hg9;rw[ownBlock_slice] at h;exact⟨h.os,h.tape,h.output,by have:=h.size;simp at this;omega,fun b hb hne=>(h.block b (by simp;omega) hne).trans (zA _ _ _ hb)⟩
     have hs9:=hg.size;have hB3a:some B3≠Ar.map (·.block):=fun e=>(by have:=(SA.o.blk e.symm).1;omega);have hb39:=(hg.block B3 (by omega) hB3a).trans SA.o.b3;have z9:=zC hb39 0;have f9:=zF hb39 0;simp at z9;have hS9:=SA.o.push (x:=(j:Int)) hown9 hg;have K9:PtK B3 wa Ar (w9.setCell ⟨B3,0,none⟩ (.slice A9 (path.length+1) c9)) A9:=by
      refine PtK.trans (w1:=w9) (A1:=A9) ⟨?_,fun b hb _ h=>hg.block b hb h,hs9⟩ (PtK.set A9 _);rcases hloc9 with e | e
      ·rw[ownBlock_slice,ownBlock_slice] at e;exact .inl e
      rw[ownBlock_slice] at e;exact .inr ⟨_,e,by simp⟩
     obtain⟨w11,hw11⟩:∃w11,w9.setCell ⟨B3,0,none⟩ (.slice A9 (path.length+1) c9)=w11:=⟨_,rfl⟩;rw[hw11] at hS9 K9;have S11:=zH hS9;have K11:=zH (KA.o.trans K9);have hwra:some wr.heap.size≠Ar.map (·.block):=fun e=>(by have:=(SA.o.blk e.symm).1;have:=HB0.o _ e.symm;omega);have q11:=(K9.kept wr.heap.size la (by omega) hwra).trans QA.o;obtain⟨x0,x1,x2,x3⟩:=cells4t q11;have h11:=(K11.o.kept W.heap.size l1 hH3 hHA).trans Q1.o;clear y0 y1 y2 y3;obtain⟨y0,y1,y2,y3⟩:=cells4t h11;have c4:=zC S11.o.b4 0;simp at c4;have CALL:=zH (IH.o xs[j] _ (cr+1) w11 (path++[(j:Int)]) A9 c9 (by omega) (by omega) (by simp;omega) (Raw.obj_args HSO.o j hlt) HTV.o S11.o);obtain⟨r,hr⟩:∃r,Raw.pth ks t xs[j] (cr+1)=r:=⟨_,rfl⟩;rw[hr] at CALL HQ2;clear hr hown9 hg9 hg hb39 hS9 K9 q11 h11 hloc9 hB3a hwra;go_wp2_with fail;refine CALL.o.mono ?_;rintro e w12⟨A12,c12,K12,(⟨hn,rfl,S12⟩ | ⟨qq,hq,rfl,S12⟩)⟩
     ·have e12:(path++[(j:Int)]).length=path.length+1:=(by simp);have hb12:=S12.b3;have hown12:=S12.own;rw[e12] at hb12 hown12;obtain⟨g12,cap12,hv12⟩:=ownsRow_succ hown12;injection hv12 with ha12 _ hc12;subst ha12 hc12;have hcap:path.length+1<=c12:=by
       rcases hown12.2 with⟨h0,_⟩ | ⟨g',cap',cur',hv',_,_,hnc,_⟩
       ·cases h0
       injection hv' with _ _ e3;omega
      have z12:=zC hb12 0;have f12:=zF hb12 0;simp at z12;have HS12:=zH S12.pop;have HK12:=zH ((K11.o.trans K12).trans (PtK.set (some ⟨g12,0,none⟩) (.slice (some ⟨g12,0,none⟩) path.length c12)));have HQ3:=zH (show Raw.pths ks t xs (cr+1) 0=Raw.pths ks t (xs.drop (j+1)) (cr+1) ((j+1:Nat):Int) by rw[HQ2.o,hn]);have hpw:IntKind.i64.wrap ((path.length:Int)+1-1)=(path.length:Int):=(by rw[Zi _ (by omega)];omega);clear hn K12 S12 hb12 hown12 e12;go_wp2_with fail;go_roundw;case rel=>exact⟨j+1,some ⟨g12,0,none⟩,c12,by omega,by go_num,HQ3,HS12,HK12⟩
      case measure=>simp[intOf];omega
     have HN:Hid (PtAns w0 ks A0 c0 kt pt nt At lt ct B1 B2 B3 B4 base W path A (Raw.pth ks t (.node kd nm ps xs) cr) (.returned (.bool true)) w12):=zH ⟨A12,c12,(PtK.wide A bW1).trans (K11.o.trans K12),.inr ⟨(j:Int) :: qq,by rw[HRES.o,HQ2.o,hq],rfl,by rw[List.append_cons];exact S12⟩⟩;clear hq K12 S12;go_wp2_with fail;go_ret;exact HN.o
    obtain rfl:j=xs.length:=(by omega);have HN:Hid (PtAns w0 ks A0 c0 kt pt nt At lt ct B1 B2 B3 B4 base W path A (Raw.pth ks t (.node kd nm ps xs) cr) (.returned (.bool false)) wr):=zH ⟨Ar,cr',(PtK.wide A bW1).trans HK.o,.inl ⟨by rw[HRES.o,HQ.o,List.drop_length,Raw.pths],rfl,HS.o⟩⟩;clear HQ HS HK;go_wp2_with fail;go_ret;exact HN.o
   have hkb:(kd == 3)=false:=(by simp[hk3]);have HRES:=zH (show Raw.pth ks t (.node kd nm ps xs) cr=Raw.pths ks t xs cr 0 by rw[Raw.pth,if_neg (by rw[HS0.o];decide),if_neg (by rw[HP0.o];decide),if_neg hk3]);clear HS0 HP0 hk3;go_wp2_with fail;go_loopw [25] (fun i wr=>∃(j:Nat)(A':Option Addr)(c':Nat),j<=xs.length/\i=zI (j:Int)/\Hid (Raw.pths ks t xs cr 0=Raw.pths ks t (xs.drop j) cr (j:Int))/\Hid (PtS w0 ks A0 c0 kt pt nt At lt ct B1 B2 B3 B4 base wr path A' c')/\Hid (PtK B3 w1 A wr A')) (fun i _=>xs.length-(intOf i).toNat);case atStart=>exact⟨0,A,c,by omega,rfl,zH rfl,zH SB,zH (PtK.wide A b13)⟩
   obtain⟨j,Ar,cr',hj,rfl,HQ,HS,HK⟩:=hrel;have hsr:=HK.o.size;have hqr:=(HK.o.kept W.heap.size l1 hH3 hHA).trans Q1.o;obtain⟨y0,y1,y2,y3⟩:=cells4t hqr;by_cases hlt:j<xs.length
   ·obtain⟨b,o,k1,n1,p1,us,B,cc1,rfl,hb,ht,d0,d1,d2,d3,hcu,hB,hT⟩:=HA.o.at_ hlt;have hbw:=HS.o.below;have f0:=(hbw.cell (p:=⟨b,o+j*4,none⟩) hb).trans d0;have f1:=(hbw.cell (p:=⟨b,o+j*4+1,none⟩) hb).trans d1;have f2:=(hbw.cell (p:=⟨b,o+j*4+2,none⟩) hb).trans d2;have f3:=(hbw.cell (p:=⟨b,o+j*4+3,none⟩) hb).trans d3;have hi0:=zP j;have hi1:(j:Int)<(xs.length:Int):=(by omega);have hmem:=Raw.sizes_mem xs xs[j] (Ze _);obtain⟨wa,hwa⟩:∃wa,wr.alloc (.cells (zT k1 n1 p1 B us cc1) 51)=wa:=⟨_,rfl⟩;have ba:=zG hwa;have qa:=zQ hwa;have la:=zL qa;have SA:=zH (HS.o.wide ba);have HB0:Hid (∀g,Ar.map (·.block)=some g->g<wr.heap.size):=zH (fun g e=>(HS.o.blk e).2);have KA:=zH (HK.o.trans (PtK.wide Ar ba));have QA:=zH qa;have HQ2:=zH (HQ.o.trans (pths_drop hlt));have HWA:=zH hwa;have HTV:=zH hT;have z3:=zC SA.o.b3 0;simp at z3;have hnb:=SA.o.n;have hlm:path.length+1<=maxLen:=(by unfold maxLen;omega);have hl8:(path.length+1)*8<=140737488355328:=(by omega);clear hwa ba qa HQ HS hT hB ht d0 d1 d2 d3 hbw;go_upto_region 8 with fail;rw[HWA.o];clear HWA f0 f1 f2 f3;go_wp2_with (at_builtin;refine wpList_append_own_at _ rfl _ _ 22 rfl base 3 i0 (zI 0) 1 8 Tryz.underlying22 hi hz0 hz1 hz2 rfl (by decide) _ _ _ rfl (SA.o.own.alloc _) ⟨wa.heap.size,0,none⟩ 1 1 [zI (j:Int)] rfl rfl (fun jj v hj=>ocells_new wa _ rfl [zI (j:Int)] 3 jj v hj) (by intro v hv;simp at hv;subst hv;rfl) hlm hl8 (by simp;omega) ?_);intro v9 w9 hown9 hg9 _ hloc9;obtain⟨A9,c9,rfl⟩:=oform hown9;have hg:wa.grownBy w9 (Ar.map (·.block)):=by
     have h:=hg9;rw[ownBlock_slice] at h;exact⟨h.os,h.tape,h.output,by have:=h.size;simp at this;omega,fun b hb hne=>(h.block b (by simp;omega) hne).trans (zA _ _ _ hb)⟩
    have hs9:=hg.size;have hB3a:some B3≠Ar.map (·.block):=fun e=>(by have:=(SA.o.blk e.symm).1;omega);have hb39:=(hg.block B3 (by omega) hB3a).trans SA.o.b3;have z9:=zC hb39 0;have f9:=zF hb39 0;simp at z9;have hS9:=SA.o.push (x:=(j:Int)) hown9 hg;have K9:PtK B3 wa Ar (w9.setCell ⟨B3,0,none⟩ (.slice A9 (path.length+1) c9)) A9:=by
     refine PtK.trans (w1:=w9) (A1:=A9) ⟨?_,fun b hb _ h=>hg.block b hb h,hs9⟩ (PtK.set A9 _);rcases hloc9 with e | e
     ·rw[ownBlock_slice,ownBlock_slice] at e;exact .inl e
     rw[ownBlock_slice] at e;exact .inr ⟨_,e,by simp⟩
    obtain⟨w11,hw11⟩:∃w11,w9.setCell ⟨B3,0,none⟩ (.slice A9 (path.length+1) c9)=w11:=⟨_,rfl⟩;rw[hw11] at hS9 K9;have S11:=zH hS9;have K11:=zH (KA.o.trans K9);have hwra:some wr.heap.size≠Ar.map (·.block):=fun e=>(by have:=(SA.o.blk e.symm).1;have:=HB0.o _ e.symm;omega);have q11:=(K9.kept wr.heap.size la (by omega) hwra).trans QA.o;obtain⟨x0,x1,x2,x3⟩:=cells4t q11;have h11:=(K11.o.kept W.heap.size l1 hH3 hHA).trans Q1.o;clear y0 y1 y2 y3;obtain⟨y0,y1,y2,y3⟩:=cells4t h11;have c4:=zC S11.o.b4 0;simp at c4;have CALL:=zH (IH.o xs[j] _ cr w11 (path++[(j:Int)]) A9 c9 (by omega) (by omega) (by simp;omega) (Raw.obj_args HSO.o j hlt) HTV.o S11.o);obtain⟨r,hr⟩:∃r,Raw.pth ks t xs[j] cr=r:=⟨_,rfl⟩;rw[hr] at CALL HQ2;clear hr hown9 hg9 hg hb39 hS9 K9 q11 h11 hloc9 hB3a hwra;go_wp2_with fail;refine CALL.o.mono ?_;rintro e w12⟨A12,c12,K12,(⟨hn,rfl,S12⟩ | ⟨qq,hq,rfl,S12⟩)⟩
    ·have e12:(path++[(j:Int)]).length=path.length+1:=(by simp);have hb12:=S12.b3;have hown12:=S12.own;rw[e12] at hb12 hown12;obtain⟨g12,cap12,hv12⟩:=ownsRow_succ hown12;injection hv12 with ha12 _ hc12;subst ha12 hc12;have hcap:path.length+1<=c12:=by
      rcases hown12.2 with⟨h0,_⟩ | ⟨g',cap',cur',hv',_,_,hnc,_⟩
      ·cases h0
      injection hv' with _ _ e3;omega
     have z12:=zC hb12 0;have f12:=zF hb12 0;simp at z12;have HS12:=zH S12.pop;have HK12:=zH ((K11.o.trans K12).trans (PtK.set (some ⟨g12,0,none⟩) (.slice (some ⟨g12,0,none⟩) path.length c12)));have HQ3:=zH (show Raw.pths ks t xs cr 0=Raw.pths ks t (xs.drop (j+1)) cr ((j+1:Nat):Int) by rw[HQ2.o,hn]);have hpw:IntKind.i64.wrap ((path.length:Int)+1-1)=(path.length:Int):=(by rw[Zi _ (by omega)];omega);clear hn K12 S12 hb12 hown12 e12;go_wp2_with fail;go_roundw;case rel=>exact⟨j+1,some ⟨g12,0,none⟩,c12,by omega,by go_num,HQ3,HS12,HK12⟩
     case measure=>simp[intOf];omega
    have HN:Hid (PtAns w0 ks A0 c0 kt pt nt At lt ct B1 B2 B3 B4 base W path A (Raw.pth ks t (.node kd nm ps xs) cr) (.returned (.bool true)) w12):=zH ⟨A12,c12,(PtK.wide A bW1).trans (K11.o.trans K12),.inr ⟨(j:Int) :: qq,by rw[HRES.o,HQ2.o,hq],rfl,by rw[List.append_cons];exact S12⟩⟩;clear hq K12 S12;go_wp2_with fail;go_ret;exact HN.o
   obtain rfl:j=xs.length:=(by omega);have HN:Hid (PtAns w0 ks A0 c0 kt pt nt At lt ct B1 B2 B3 B4 base W path A (Raw.pth ks t (.node kd nm ps xs) cr) (.returned (.bool false)) wr):=zH ⟨Ar,cr',(PtK.wide A bW1).trans HK.o,.inl ⟨by rw[HRES.o,HQ.o,List.drop_length,Raw.pths],rfl,HS.o⟩⟩;clear HQ HS HK;go_wp2_with fail;go_ret;exact HN.o
  have HRES:=zH (show Raw.pth ks t (.node kd nm ps xs) cr=some [] by rw[Raw.pth,if_pos HS0.o]);go_enter Tryz.func44,Tryz.ntmps44;go_wp2_with fail;refine CS.o.mono ?_;rintro e w2⟨rfl,b2⟩;have HN:Hid (PtAns w0 ks A0 c0 kt pt nt At lt ct B1 B2 B3 B4 base W path A (Raw.pth ks t (.node kd nm ps xs) cr) (.returned (.bool true)) w2):=zH ⟨A,c,(PtK.wide A bW1).trans (PtK.wide A b2),.inr ⟨[],HRES.o,rfl,by rw[List.append_nil];exact S1.o.wide b2⟩⟩;go_wp2_with fail;go_ret;exact HN.o
end
section
open Go.RowKit _root_.Lfc
theorem own_base{w:World}{b b':Nat}{e:TypeId}{size n:Nat}{v:Value}{xs:List Value}(h:w.ownsRow b e size v n xs)(hb:b'≤b):w.ownsRow b' e size v n xs:=by
 refine⟨h.1,h.2.imp id ?_⟩;rintro⟨g,cap,cur,h1,h2,h3⟩;exact⟨g,cap,cur,h1,zR hb h2,h3⟩
def PathAns(w:World)(r:Option (List Int))(e:Ending)(w':World):Prop :=
 ((r=none∧e=.returned (.tuple #[.slice none 0 0,.bool false]))∨(∃q A c,r=some q∧e=.returned (.tuple #[.slice A q.length c,.bool true])∧q.length≤c∧w'.ownsRow w.heap.size 3 1 (.slice A q.length c) q.length (ints q)))∧Below w.heap.size w w'
theorem oPath_any(t u:Raw)(vt vu:Value)(ks:List Int)(A0:Option Addr)(c0:Nat)(w:World)(hks:ks.length<=1000000)(ht:t.size<=1000000)(hu:u.size<=1000000)(hA0:IntsO w A0 ks)(hv:TreeV w t vt)(hv':TreeV w u vu) :
  Calls Tryz.prog 20 #[vt,vu,.slice A0 ks.length c0] w (PathAns w (Raw.path ks t u)):=by
 have he:=enters_path;have HV:=zH hv;have HV':=zH hv';have HP:Hid (Raw.path ks t u=if t.isO && u.isO then Raw.pth ks t u 0 else none):=zH rfl;obtain⟨A,c,kd,nm,ps,xs,hT,rfl⟩:∃A c kd nm ps xs,t=.node kd nm ps xs/\vt=.agg (zT kd nm ps A xs c):=by
  obtain⟨kd,nm,ps,ts⟩:=t;obtain⟨A,c,rfl,hc,hA⟩:=hv.open_;exact⟨A,c,kd,nm,ps,ts,rfl,rfl⟩
 obtain⟨A',c',kd',nm',ps',ys,hU,rfl⟩:∃A c kd nm ps xs,u=.node kd nm ps xs/\vu=.agg (zT kd nm ps A xs c):=by
  obtain⟨kd,nm,ps,ts⟩:=u;obtain⟨A,c,rfl,hc,hA⟩:=hv'.open_;exact⟨A,c,kd,nm,ps,ts,rfl,rfl⟩
 obtain⟨w1,hw1⟩:∃w1,w.alloc (.cells (zT kd nm ps A xs c) 51)=w1:=⟨_,rfl⟩;obtain⟨w2,hw2⟩:∃w2,w1.alloc (.cells (zT kd' nm' ps' A' ys c') 51)=w2:=⟨_,rfl⟩;obtain⟨w3,hw3⟩:∃w3,w2.alloc (.cells #[.slice A0 ks.length c0] 22)=w3:=⟨_,rfl⟩;have b1:=zG hw1;have b2:=zG hw2;have b3:=zG hw3;have q1:=zQ hw1;have q2:=zQ hw2;have q3:=zQ hw3;have l1:=zL q1;have l2:=zL q2;have l3:=zL q3;have b13:zb w1 w3:=b2.trans (b3.mono (by omega));have b03:zb w w3:=b1.trans (b13.mono (by omega));have Q1:=zH ((b13.block _ l1).trans q1);have Q2:=zH ((b3.block _ l2).trans q2);have Q3:=zH q3;have B03:=zH b03;have HA0:=zH hA0;have HT:=zH hT;have HU:=zH hU;have s03:w.heap.size<=w3.heap.size:=by omega
 obtain⟨y0,y1,y2,y3⟩:=cells4t Q1.o;have CT:=zH (tIsO_any t _ w3 ht (HV.o.below b03));have CU:=zH (fun W (hW:zb w3 W)=>tIsO_any u _ W hu (HV'.o.below (b03.trans (hW.mono s03))));have HOT:Hid (t.isO=true->t.obj=true):=zH (fun h=>by rw[Raw.isO,Za] at h;exact h.1);have HOU:Hid (u.isO=true->u.obj=true):=zH (fun h=>by rw[Raw.isO,Za] at h;exact h.1);rw[HP.o];clear HP hT hU hv hv' hA0 b1 b2 b3 q1 q2 q3 b13 b03;obtain⟨qt,hqt⟩:∃qt,t.isO=qt:=⟨_,rfl⟩;obtain⟨qu,hqu⟩:∃qu,u.isO=qu:=⟨_,rfl⟩;rw[hqt] at CT HOT ⊢;rw[hqu] at CU HOU ⊢;clear hqt hqu;cases qt
 ·have HE:Hid ((if false && qu then Raw.pth ks t u 0 else none)=none):=zH rfl;rw[HE.o];go_enter Tryz.func20,Tryz.ntmps20;go_wp2_with fail;refine CT.o.mono ?_;rintro e w4⟨rfl,b4⟩;go_wp2_with fail;refine Zb (results_tmp2 rfl _ _ _) ?_;exact⟨.inl ⟨rfl,rfl⟩,B03.o.trans (b4.mono s03)⟩
 have HOT2:=zH (HOT.o rfl);clear HOT;cases qu
 ·have HE:Hid ((if true && false then Raw.pth ks t u 0 else none)=none):=zH rfl;rw[HE.o];go_enter Tryz.func20,Tryz.ntmps20;go_wp2_with fail;refine CT.o.mono ?_;rintro e w4⟨rfl,b4⟩;clear y0 y1 y2 y3;obtain⟨y0,y1,y2,y3⟩:=cells4t ((b4.block _ (by omega)).trans Q2.o);go_wp2_with fail;refine(CU.o _ b4).mono ?_;rintro e w5⟨rfl,b5'⟩;have b5:=b4.trans (b5'.mono b4.size);have s5:=b5.size;clear b5' b4 y0 y1 y2 y3 hw1 hw2 hw3 CU CT;go_wp2_with fail;refine Zb (results_tmp2 rfl _ _ _) ?_;exact⟨.inl ⟨rfl,rfl⟩,B03.o.trans (b5.mono s03)⟩
 have HE:Hid ((if true && true then Raw.pth ks t u 0 else none)=Raw.pth ks t u 0):=zH rfl;have HOU2:=zH (HOU.o rfl);clear HOU;rw[HE.o];obtain⟨r,hr⟩:∃r,Raw.pth ks t u 0=r:=⟨_,rfl⟩;rw[hr];have HR:=zH hr;clear hr;go_enter Tryz.func20,Tryz.ntmps20;go_wp2_with fail;refine CT.o.mono ?_;rintro e w4⟨rfl,b4⟩;clear y0 y1 y2 y3;obtain⟨y0,y1,y2,y3⟩:=cells4t ((b4.block _ (by omega)).trans Q2.o);go_wp2_with fail;refine(CU.o _ b4).mono ?_;rintro e w5⟨rfl,b5'⟩;have b5:=b4.trans (b5'.mono b4.size);have s5:=b5.size;clear b5' b4 y0 y1 y2 y3 hw1 hw2 hw3 CU CT;obtain⟨w6,hw6⟩:∃w6,w5.alloc (.cells #[zS] 22)=w6:=⟨_,rfl⟩;obtain⟨w7,hw7⟩:∃w7,w6.alloc (.cells #[.func (.func 44) #[] #[.pointer (some ⟨w.heap.size,0,none⟩),.pointer (some ⟨w2.heap.size,0,none⟩),.pointer (some ⟨w5.heap.size,0,none⟩),.pointer (some ⟨w6.heap.size,0,none⟩)]] 97)=w7:=⟨_,rfl⟩;have b6:=zG hw6;have b7:=zG hw7;have q6:=zQ hw6;have q7:=zQ hw7;have l6:=zL q6;have l7:=zL q7;have b37:zb w3 w7:=b5.trans ((b6.trans (b7.mono (by omega))).mono s5);have SZ:PtS w ks A0 c0 kd ps nm A xs.length c w.heap.size w2.heap.size w5.heap.size w6.heap.size w7.heap.size w7 [] none 0 :=
  ⟨B03.o.trans (b37.mono s03),(b37.block _ (by omega)).trans Q1.o,(b37.block _ l3).trans Q3.o,(b7.block _ l6).trans q6,q7,⟨rfl,.inl ⟨rfl,rfl⟩⟩,by omega⟩
 have CALL:=zH (ptWalk_upto w ks A0 c0 kd ps nm A xs xs.length c _ _ _ _ _ t rfl HT.o hks HA0.o HOT2.o HV.o _ hu u _ 0 w7 [] none 0 (zN _) (by omega) (by simp;omega) HOU2.o HV'.o SZ);rw[HR.o] at CALL;obtain⟨x0,x1,x2,x3⟩:=cells4t ((b37.block _ (by omega)).trans Q2.o);have c4:=zC q7 0;simp at c4;have HW7:=zH hw7;have hs0:w.heap.size<=w7.heap.size:=by omega
 clear hw7 b6 b7 q6 q7 b37 SZ;go_upto_region 6 with fail;rw[HW7.o];go_wp2_with fail;refine CALL.o.mono ?_;rintro e w9⟨A9,c9,K9,(⟨hn,rfl,S9⟩ | ⟨q,hq,rfl,S9⟩)⟩
 ·go_wp2_with fail;refine Zb (results_tmp2 rfl _ _ _) ?_;exact⟨.inl ⟨hn,rfl⟩,S9.below⟩
 rw[List.nil_append] at S9;have z9:=zC S9.b3 0;simp at z9;have HZ:Hid (PathAns w r (.returned (.tuple #[.slice A9 q.length c9,.bool true])) w9):=zH ⟨.inr ⟨q,A9,c9,hq,rfl,by
  rcases S9.own.2 with⟨_,h2⟩ | ⟨g',cap',cur',hv',_,_,hnc,_⟩
  ·rw[h2];exact Nat.zero_le _
  injection hv' with _ _ e3;omega,own_base S9.own hs0⟩,S9.below⟩
 clear S9 hq K9;go_wp2_with fail;refine Zb (results_tmp2 rfl _ _ _) ?_;exact HZ.o
mutual
def TreeP(q:Nat→Prop)(w:World):Raw→Value→Value→Value→Value→Prop
 |.node k n p ts,v0,v1,v2,v3=>v0=.int .i64 k∧v1=S n∧n.length≤1000000∧v2=.int .i64 p∧∃A c,v3=.slice A ts.length c∧ts.length≤c∧(ts≠[]→∃b o,A=some ⟨b,o,none⟩∧b<w.heap.size∧q b∧TreesP q w b ts o)
def TreesP(q:Nat→Prop)(w:World)(b:Nat):List Raw→Nat→Prop
 |[],_=>True
 |t :: r,o=>(∃v0 v1 v2 v3,w.cell? ⟨b,o,none⟩=some v0∧w.cell? ⟨b,o+1,none⟩=some v1∧w.cell? ⟨b,o+2,none⟩=some v2∧w.cell? ⟨b,o+3,none⟩=some v3∧TreeP q w t v0 v1 v2 v3)∧TreesP q w b r (o+4)
end
mutual
theorem TreeP.keep{q q':Nat→Prop}{w w':World}(hk:∀b,q b→b<w.heap.size→w'.heap[b]?=w.heap[b]?)(hs:w.heap.size≤w'.heap.size)(hq:∀b,b<w.heap.size→q b→q' b):∀(t:Raw)(v0 v1 v2 v3:Value),TreeP q w t v0 v1 v2 v3→TreeP q' w' t v0 v1 v2 v3
 |.node k n p ts,v0,v1,v2,v3,h=>by
  rw[TreeP] at h ⊢;obtain⟨h0,h1,hn,h2,A,c,h3,h4,h5⟩:=h;refine⟨h0,h1,hn,h2,A,c,h3,h4,fun hne=>?_⟩;obtain⟨b,o,hA,hlt,hqb,hts⟩:=h5 hne;exact⟨b,o,hA,Zl hlt hs,hq b hlt hqb,TreesP.keep hk hs hq ts b o hlt hqb hts⟩
theorem TreesP.keep{q q':Nat→Prop}{w w':World}(hk:∀b,q b→b<w.heap.size→w'.heap[b]?=w.heap[b]?)(hs:w.heap.size≤w'.heap.size)(hq:∀b,b<w.heap.size→q b→q' b):∀(ts:List Raw)(b o:Nat),b<w.heap.size→q b→TreesP q w b ts o→TreesP q' w' b ts o
 |[],_,_,_,_,_=>by rw[TreesP];trivial
 |t :: r,b,o,hlt,hb,h=>by
  rw[TreesP] at h ⊢;obtain⟨⟨v0,v1,v2,v3,c0,c1,c2,c3,ht⟩,hr⟩:=h;have hc:=fun j=>World.cell?_of_block (a:=⟨b,j,none⟩) (hk b hb hlt);exact⟨⟨v0,v1,v2,v3,(hc _).trans c0,(hc _).trans c1,(hc _).trans c2,(hc _).trans c3,TreeP.keep hk hs hq t v0 v1 v2 v3 ht⟩,TreesP.keep hk hs hq r b (o+4) hlt hb hr⟩
end
mutual
theorem TreeP.toC{q:Nat→Prop}{w:World}:∀(t:Raw)(v0 v1 v2 v3:Value),TreeP q w t v0 v1 v2 v3→TreeC w t v0 v1 v2 v3
 |.node k n p ts,v0,v1,v2,v3,h=>by
  rw[TreeP] at h;rw[TreeC];obtain⟨h0,h1,hn,h2,A,c,h3,h4,h5⟩:=h;refine⟨h0,h1,hn,h2,A,c,h3,h4,fun hne=>?_⟩;obtain⟨b,o,hA,hlt,hqb,hts⟩:=h5 hne;exact⟨b,o,hA,hlt,TreesP.toC ts b o hts⟩
theorem TreesP.toC{q:Nat→Prop}{w:World}:∀(ts:List Raw)(b o:Nat),TreesP q w b ts o→TreesO w b ts o
 |[],_,_,_=>by rw[TreesO];trivial
 |t :: r,b,o,h=>by
  rw[TreesP] at h;rw[TreesO];obtain⟨⟨v0,v1,v2,v3,c0,c1,c2,c3,ht⟩,hr⟩:=h;exact⟨⟨v0,v1,v2,v3,c0,c1,c2,c3,TreeP.toC t v0 v1 v2 v3 ht⟩,TreesP.toC r b (o+4) hr⟩
end
mutual
theorem TreeC.toP{q:Nat→Prop}{w:World}(hq:∀b,b<w.heap.size→q b):∀(t:Raw)(v0 v1 v2 v3:Value),TreeC w t v0 v1 v2 v3→TreeP q w t v0 v1 v2 v3
 |.node k n p ts,v0,v1,v2,v3,h=>by
  rw[TreeC] at h;rw[TreeP];obtain⟨h0,h1,hn,h2,A,c,h3,h4,h5⟩:=h;refine⟨h0,h1,hn,h2,A,c,h3,h4,fun hne=>?_⟩;obtain⟨b,o,hA,hlt,hts⟩:=h5 hne;exact⟨b,o,hA,hlt,hq b hlt,TreesO.toP hq ts b o hts⟩
theorem TreesO.toP{q:Nat→Prop}{w:World}(hq:∀b,b<w.heap.size→q b):∀(ts:List Raw)(b o:Nat),TreesO w b ts o→TreesP q w b ts o
 |[],_,_,_=>by rw[TreesP];trivial
 |t :: r,b,o,h=>by
  rw[TreesO] at h;rw[TreesP];obtain⟨⟨v0,v1,v2,v3,c0,c1,c2,c3,ht⟩,hr⟩:=h;exact⟨⟨v0,v1,v2,v3,c0,c1,c2,c3,TreeC.toP hq t v0 v1 v2 v3 ht⟩,TreesO.toP hq r b (o+4) hr⟩
end
def RowP(q:Nat→Prop)(w:World):List Raw→List Value→Prop
 |[],xs=>xs=[]
 |t :: r,xs=>∃v0 v1 v2 v3 ys,xs=v0 :: v1 :: v2 :: v3 :: ys∧TreeP q w t v0 v1 v2 v3∧RowP q w r ys
theorem RowP.len{q:Nat→Prop}{w:World}:∀{ts:List Raw}{xs:List Value},RowP q w ts xs→xs.length=4*ts.length
 |[],xs,h=>by rw[RowP] at h;subst h;rfl
 |t :: r,xs,h=>by
  rw[RowP] at h;obtain⟨v0,v1,v2,v3,ys,rfl,_,hr⟩:=h;have:=hr.len;simp;omega
theorem RowP.keep{q q':Nat→Prop}{w w':World}(hk:∀b,q b→b<w.heap.size→w'.heap[b]?=w.heap[b]?)(hs:w.heap.size≤w'.heap.size)(hq:∀b,b<w.heap.size→q b→q' b):∀{ts:List Raw}{xs:List Value},RowP q w ts xs→RowP q' w' ts xs
 |[],xs,h=>by rw[RowP] at h ⊢;exact h
 |t :: r,xs,h=>by
  rw[RowP] at h ⊢;obtain⟨v0,v1,v2,v3,ys,rfl,ht,hr⟩:=h;exact⟨v0,v1,v2,v3,ys,rfl,TreeP.keep hk hs hq t _ _ _ _ ht,hr.keep hk hs hq⟩
theorem RowP.append{q:Nat→Prop}{w:World}{us:List Raw}{zs:List Value}(hz:RowP q w us zs):∀{ts:List Raw}{xs:List Value},RowP q w ts xs→RowP q w (ts++us) (xs++zs)
 |[],xs,h=>by rw[RowP] at h;subst h;exact hz
 |t :: r,xs,h=>by
  rw[RowP] at h;obtain⟨v0,v1,v2,v3,ys,rfl,ht,hr⟩:=h;rw[List.cons_append,RowP];exact⟨v0,v1,v2,v3,ys++zs,by simp,ht,RowP.append hz hr⟩
theorem RowP.one{q:Nat→Prop}{w:World}{t:Raw}{v0 v1 v2 v3:Value}(h:TreeP q w t v0 v1 v2 v3):RowP q w [t] [v0,v1,v2,v3]:=⟨v0,v1,v2,v3,[],rfl,h,rfl⟩
def CellsAt(w:World)(b o:Nat)(xs:List Value):Prop:=∀j u,xs[j]?=some u→w.cell? ⟨b,o+j,none⟩=some u
theorem RowP.lie{q:Nat→Prop}{w:World}{b:Nat}:∀{ts:List Raw}{xs:List Value}{o:Nat},RowP q w ts xs→CellsAt w b o xs→TreesP q w b ts o
 |[],_,_,_,_=>by rw[TreesP];trivial
 |t :: r,xs,o,h,hc=>by
  rw[RowP] at h;obtain⟨v0,v1,v2,v3,ys,rfl,ht,hr⟩:=h;rw[TreesP];refine⟨⟨v0,v1,v2,v3,hc 0 _ rfl,hc 1 _ rfl,hc 2 _ rfl,hc 3 _ rfl,ht⟩,hr.lie fun j u hj=>?_⟩;have:=hc (j+4) u (by simpa using hj);rw[show o+4+j=o+(j+4) by omega];exact this
theorem TreesP.row{q:Nat→Prop}{w:World}{b:Nat}:∀{ts:List Raw}{o:Nat},TreesP q w b ts o→∃xs,RowP q w ts xs∧CellsAt w b o xs
 |[],_,_=>⟨[],by rw[RowP],fun j u h=>by simp at h⟩
 |t :: r,o,h=>by
  rw[TreesP] at h;obtain⟨⟨v0,v1,v2,v3,c0,c1,c2,c3,ht⟩,hr⟩:=h;obtain⟨xs,hx,hc⟩:=hr.row;refine⟨v0 :: v1 :: v2 :: v3 :: xs,?_,fun j u hj=>?_⟩
  ·rw[RowP];exact⟨v0,v1,v2,v3,xs,rfl,ht,hx⟩
  match j with
  |0=>simp at hj;subst hj;exact c0
  |1=>simp at hj;subst hj;exact c1
  |2=>simp at hj;subst hj;exact c2
  |3=>simp at hj;subst hj;exact c3
  |j+4 =>
   have:=hc j u (by simpa using hj);rw[show o+(j+4)=o+4+j by omega];exact this
theorem RowP.set{q:Nat→Prop}{w:World}{t:Raw}{v0 v1 v2 v3:Value}(ht:TreeP q w t v0 v1 v2 v3):∀{ts:List Raw}{xs:List Value}(i:Nat),i<ts.length→RowP q w ts xs→RowP q w (ts.set i t) ((((xs.set (i*4) v0).set (i*4+1) v1).set (i*4+2) v2).set (i*4+3) v3)
 |[],_,_,hi,_=>by simp at hi
 |u :: r,xs,i,hi,h=>by
  rw[RowP] at h;obtain⟨u0,u1,u2,u3,ys,rfl,hu,hr⟩:=h
  match i with
  |0=>simp only[List.set_cons_zero,Nat.zero_mul,Nat.zero_add,List.set_cons_succ];rw[RowP];exact⟨v0,v1,v2,v3,ys,rfl,ht,hr⟩
  |i+1 =>
   have:=RowP.set ht i (by simpa using hi) hr;rw[show(i+1)*4=i*4+1+1+1+1 by omega];simp only[List.set_cons_succ];rw[RowP];exact⟨u0,u1,u2,u3,_,rfl,hu,this⟩
theorem CellsAt.set{w:World}{b o j0:Nat}{xs:List Value}(h:CellsAt w b o xs)(v:Value):CellsAt (w.setCell ⟨b,o+j0,none⟩ v) b o (xs.set j0 v):=by
 intro j u hj;by_cases e:j=j0
 ·subst e;have hl:j<xs.length:=by
   rcases Nat.lt_or_ge j xs.length with h1 | h1
   ·exact h1
   rw[List.set_eq_of_length_le h1,List.getElem?_eq_none h1] at hj;cases hj
  rw[List.getElem?_set_self hl] at hj;cases hj;refine World.cell?_setCell_same' _ _ _ ?_;rw[h j xs[j] (Zg hl)];rfl
 rw[List.getElem?_set_ne (Ne.symm e)] at hj;rw[World.cell?_setCell_other]
 ·exact h j u hj
 intro e';have:=congrArg Addr.off e';simp at this;omega
theorem taddr_add(b j:Nat):(⟨b,0,none⟩:Addr).add j=⟨b,j,none⟩:=by
 unfold Addr.add;split <;> simp_all
theorem own_cells{w:World}{base:Nat}{e:TypeId}{size n g cap:Nat}{xs:List Value}(h:w.ownsRow base e size (.slice (some ⟨g,0,none⟩) n cap) n xs):CellsAt w g 0 xs:=by
 intro j u hj;have:=h.cells (g:=g) rfl j u hj;rw[taddr_add] at this;simpa using this
def TreesAtP(q:Nat→Prop)(w:World)(A:Option Addr)(ts:List Raw):Prop:=ts≠[]→∃b o,A=some ⟨b,o,none⟩∧b<w.heap.size∧q b∧TreesP q w b ts o
theorem TreesAtP.keep{q q':Nat→Prop}{w w':World}{A:Option Addr}{ts:List Raw}(hk:∀b,q b→b<w.heap.size→w'.heap[b]?=w.heap[b]?)(hs:w.heap.size≤w'.heap.size)(hq:∀b,b<w.heap.size→q b→q' b)(h:TreesAtP q w A ts):TreesAtP q' w' A ts:=fun hne=>by
 obtain⟨b,o,hA,hlt,hb,h⟩:=h hne;exact⟨b,o,hA,Zl hlt hs,hq b hlt hb,TreesP.keep hk hs hq ts b o hlt hb h⟩
def TreeVP(q:Nat→Prop)(w:World)(t:Raw)(v:Value):Prop:=∃v0 v1 v2 v3,v=.agg #[v0,v1,v2,v3]∧TreeP q w t v0 v1 v2 v3
theorem TreeVP.toV{q:Nat→Prop}{w:World}{t:Raw}{v:Value}(h:TreeVP q w t v):TreeV w t v:=by
 obtain⟨v0,v1,v2,v3,rfl,h⟩:=h;exact⟨v0,v1,v2,v3,rfl,TreeP.toC t _ _ _ _ h⟩
theorem TreeV.toP{q:Nat→Prop}{w:World}{t:Raw}{v:Value}(hq:∀b,b<w.heap.size→q b)(h:TreeV w t v):TreeVP q w t v:=by
 obtain⟨v0,v1,v2,v3,rfl,h⟩:=h;exact⟨v0,v1,v2,v3,rfl,TreeC.toP hq t _ _ _ _ h⟩
theorem TreeVP.mk{q:Nat→Prop}{w:World}{k p:Int}{n:List UInt8}{ts:List Raw}{A:Option Addr}{c:Nat}(hn:n.length≤1000000)(hc:ts.length≤c)(h:TreesAtP q w A ts):TreeVP q w (.node k n p ts) (.agg #[.int .i64 k,S n,.int .i64 p,.slice A ts.length c]) :=
 ⟨_,_,_,_,rfl,by rw[TreeP];exact⟨rfl,rfl,hn,rfl,A,c,rfl,hc,h⟩⟩
theorem put4{W:World}{R:Nat}{a0 a1 a2 a3:Value}{t:TypeId}(h:W.heap[R]?=some (.cells #[a0,a1,a2,a3] t (0,0)))(v0 v1 v2 v3:Value):∃s1 s2 s3 s4,W.setCell ⟨R,0,none⟩ v0=s1∧s1.setCell ⟨R,1,none⟩ v1=s2∧s2.setCell ⟨R,2,none⟩ v2=s3∧s3.setCell ⟨R,3,none⟩ v3=s4 ∧
  (W.cell? ⟨R,0,none⟩=some a0∧s1.cell? ⟨R,1,none⟩=some a1∧s2.cell? ⟨R,2,none⟩=some a2∧s3.cell? ⟨R,3,none⟩=some a3) ∧
  (W.frozen? ⟨R,0,none⟩=false∧s1.frozen? ⟨R,1,none⟩=false∧s2.frozen? ⟨R,2,none⟩=false∧s3.frozen? ⟨R,3,none⟩=false) ∧
  s4.heap[R]?=some (.cells #[v0,v1,v2,v3] t (0,0))∧Oth R W s4:=by
 obtain⟨s1,h1⟩:∃s1,W.setCell ⟨R,0,none⟩ v0=s1:=⟨_,rfl⟩;obtain⟨s2,h2⟩:∃s2,s1.setCell ⟨R,1,none⟩ v1=s2:=⟨_,rfl⟩;obtain⟨s3,h3⟩:∃s3,s2.setCell ⟨R,2,none⟩ v2=s3:=⟨_,rfl⟩;obtain⟨s4,h4⟩:∃s4,s3.setCell ⟨R,3,none⟩ v3=s4:=⟨_,rfl⟩;have q1:s1.heap[R]?=some (.cells #[v0,a1,a2,a3] t (0,0)):=zU h h1;have q2:s2.heap[R]?=some (.cells #[v0,v1,a2,a3] t (0,0)):=zU q1 h2;have q3:s3.heap[R]?=some (.cells #[v0,v1,v2,a3] t (0,0)):=zU q2 h3;have q4:s4.heap[R]?=some (.cells #[v0,v1,v2,v3] t (0,0)):=zU q3 h4;refine⟨s1,s2,s3,s4,h1,h2,h3,h4,⟨zC h 0,zC q1 1,zC q2 2,zC q3 3⟩,⟨zF h 0,zF q1 1,zF q2 2,zF q3 3⟩,q4,?_⟩;rw[←h4,←h3,←h2,←h1];exact(((Oth.set W v0).trans (Oth.set _ v1)).trans (Oth.set _ v2)).trans (Oth.set _ v3)
theorem tput4row{W:World}{g i:Nat}{xs:List Value}{cur:Array Value}{t:TypeId}(h:W.heap[g]?=some (.cells cur t (0,0)))(hc:CellsAt W g 0 xs)(hi:i*4+3<xs.length)(v0 v1 v2 v3:Value):∃s1 s2 s3 s4 a0 a1 a2 a3,W.setCell ⟨g,i*4,none⟩ v0=s1∧s1.setCell ⟨g,i*4+1,none⟩ v1=s2∧s2.setCell ⟨g,i*4+2,none⟩ v2=s3∧s3.setCell ⟨g,i*4+3,none⟩ v3=s4 ∧
  (W.cell? ⟨g,i*4,none⟩=some a0∧s1.cell? ⟨g,i*4+1,none⟩=some a1∧s2.cell? ⟨g,i*4+2,none⟩=some a2∧s3.cell? ⟨g,i*4+3,none⟩=some a3) ∧
  (W.frozen? ⟨g,i*4,none⟩=false∧s1.frozen? ⟨g,i*4+1,none⟩=false∧s2.frozen? ⟨g,i*4+2,none⟩=false∧s3.frozen? ⟨g,i*4+3,none⟩=false) ∧
  CellsAt s4 g 0 ((((xs.set (i*4) v0).set (i*4+1) v1).set (i*4+2) v2).set (i*4+3) v3)∧Oth g W s4∧(∃cur2,s4.heap[g]?=some (.cells cur2 t (0,0))):=by
 have fz:∀(j:Nat)(V:World)(v:Value)(c:Array Value),V.heap[g]?=some (.cells c t (0,0))→(V.setCell ⟨g,j,none⟩ v).heap[g]?=some (.cells (c.set! j v) t (0,0)):=fun j V v c hV=>by simp[World.setCell,zM,hV]
 have c1:=hc.set (j0:=i*4) v0;have c2:=c1.set (j0:=i*4+1) v1;have c3:=c2.set (j0:=i*4+2) v2;have c4:=c3.set (j0:=i*4+3) v3;simp only[Nat.zero_add] at c1 c2 c3 c4;have h1:=fz (i*4) W v0 _ h;have h2:=fz (i*4+1) _ v1 _ h1;have h3:=fz (i*4+2) _ v2 _ h2;have h4:=fz (i*4+3) _ v3 _ h3;have e0:=hc (i*4) _ (Zg (by omega));have e1:=c1 (i*4+1) _ (Zg (by simp;omega));have e2:=c2 (i*4+2) _ (Zg (by simp;omega));have e3:=c3 (i*4+3) _ (Zg (by simp;omega));rw[Nat.zero_add] at e0 e1 e2 e3;exact⟨_,_,_,_,_,_,_,_,rfl,rfl,rfl,rfl,⟨e0,e1,e2,e3⟩,⟨zF h _,zF h1 _,zF h2 _,zF h3 _⟩,c4,(((Oth.set W v0).trans (Oth.set _ v1)).trans (Oth.set _ v2)).trans (Oth.set _ v3),_,h4⟩
theorem termInfo:(Tryz.prog.info? 51).map (fun i=>(i.zero,i.size,i.bytes))=some (some (.agg #[.int .i64 0,S [],.int .i64 0,.slice none 0 0]),4,56):=by kernel_rfl
def zeroT:Raw:=.node 0 [] 0 []
def zeroRow(n:Nat):List Value:=(List.replicate n [Value.int .i64 0,S [],.int .i64 0,.slice none 0 0]).flatten
theorem zeroRow_len(n:Nat):(zeroRow n).length=n*4:=by simp[zeroRow]
theorem zeroRow_row(q:Nat→Prop)(w:World):∀n,RowP q w (List.replicate n zeroT) (zeroRow n)
 |0=>by simp[zeroRow,RowP]
 |n+1=>by
  rw[List.replicate_succ,zeroRow,List.replicate_succ,List.flatten_cons,RowP];exact⟨_,_,_,_,_,rfl,by rw[zeroT,TreeP];exact⟨rfl,rfl,Nat.zero_le _,rfl,none,0,rfl,zN _,fun h=>absurd rfl h⟩,zeroRow_row q w n⟩
theorem zeroRow_get:∀(n i:Nat),i<n*4→(zeroRow n)[i]?=[Value.int .i64 0,S [],.int .i64 0,.slice none 0 0][i % 4]?
 |0,i,h=>by omega
 |n+1,i,h=>by
  have e:zeroRow (n+1)=[Value.int .i64 0,S [],.int .i64 0,.slice none 0 0]++zeroRow n:=by rw[zeroRow,List.replicate_succ,List.flatten_cons];rfl
  rw[e];by_cases hi:i<4
  ·rw[List.getElem?_append_left (by simpa using hi),Nat.mod_eq_of_lt hi]
  rw[List.getElem?_append_right (by simp;omega)];have:=zeroRow_get n (i-4) (by omega);rw[show(i-[Value.int .i64 0,S [],.int .i64 0,.slice none 0 0].length)=i-4 by rfl,this,show i % 4=(i-4) % 4 by omega]
theorem made_terms(n:Nat):madeCells (Value.agg #[.int .i64 0,S [],.int .i64 0,.slice none 0 0]).cells (n*4)=(zeroRow n).toArray:=by
 rw[show(Value.agg #[.int .i64 0,S [],.int .i64 0,.slice none 0 0]).cells=#[.int .i64 0,S [],.int .i64 0,.slice none 0 0] from rfl];apply Array.ext
 ·simp[madeCells,zeroRow_len]
 intro i h1 h2;have hi:i<n*4:=by simpa[madeCells] using h1
 have hm:i % 4<4:=Nat.mod_lt _ (by decide);have h:=zeroRow_get n i hi;rw[Zg (by rw[zeroRow_len];exact hi),Zg (by simpa using hm)] at h;have h:=zO h;have h3:=(List.getElem_toArray (xs:=zeroRow n) (i:=i) h2).trans h;rw[h3];simp only[madeCells,Array.getElem_map,Array.getElem_range];rw[show(#[Value.int .i64 0,S [],.int .i64 0,.slice none 0 0]:Array Value).size=4 from rfl,getElem!_pos _ _ (by simpa using hm)];rfl
theorem makeTerms(n:Nat)(hn:n≤1000000)(W:World):(Instr.makeSlice 27 (.int .i64 (n:Int)) (.int .i64 (n:Int))).run Tryz.prog W=.ok (.slice (some ⟨W.heap.size,0,none⟩) n n) (W.alloc (.cells (zeroRow n).toArray 51)):=by
 obtain⟨i0,hi,hz0,hz1,hz2⟩:=info_parts termInfo;have hr:=run_make (P:=Tryz.prog) W 27 51 i0 (.agg #[.int .i64 0,S [],.int .i64 0,.slice none 0 0]) Tryz.underlying27 hi hz0 .i64 .i64 n n (by omega) (by omega) (by rw[hz2];omega) (by omega);simp only[Int.toNat_natCast,hz1,made_terms] at hr;exact hr
theorem cellsAt_made(W:World)(xs:List Value)(t:TypeId):CellsAt (W.alloc (.cells xs.toArray t)) W.heap.size 0 xs:=by
 intro j u hj;rw[zC (zW W _)];simpa using hj
theorem take_set(ts:List Raw)(z:Raw)(k:Nat)(h:k<ts.length):(ts.take k++List.replicate (ts.length-k) z).set k ts[k]=ts.take (k+1)++List.replicate (ts.length-(k+1)) z:=by
 have hl:(ts.take k).length=k:=by rw[List.length_take];omega
 obtain⟨m,hm⟩:∃m,ts.length-k=m+1:=⟨ts.length-k-1,by omega⟩;rw[List.set_append_right _ _ (by omega),hm,hl,Nat.sub_self,List.replicate_succ,List.set_cons_zero,show ts.length-(k+1)=m by omega,Zm h,List.append_assoc];rfl
def OwnUpto(m:Nat):Prop:=∀(t:Raw)(v:Value)(w:World),t.size≤m→TreeV w t v →
  Calls Tryz.prog 93 #[v] w fun e w'=>(∃v',e=.returned v'∧TreeVP (fun b=>w.heap.size≤b) w' t v')∧Below w.heap.size w w'
theorem TreeVP.openT{q:Nat→Prop}{w:World}{k p:Int}{n:List UInt8}{ts:List Raw}{v:Value}(h:TreeVP q w (.node k n p ts) v):∃A c,v=.agg #[.int .i64 k,S n,.int .i64 p,.slice A ts.length c]∧TreeP q w (.node k n p ts) (.int .i64 k) (S n) (.int .i64 p) (.slice A ts.length c):=by
 obtain⟨v0,v1,v2,v3,rfl,h⟩:=h;have h':=h;rw[TreeP] at h;obtain⟨rfl,rfl,_,rfl,A,c,rfl,_⟩:=h;exact⟨A,c,rfl,h'⟩
def OwnI(w w1:World)(ts:List Raw)(k:Nat)(wr:World):Prop:=(∃xs,RowP (fun b=>w.heap.size<b) wr (ts.take k++List.replicate (ts.length-k) zeroT) xs∧CellsAt wr w.heap.size 0 xs)∧(∃cur,wr.heap[w.heap.size]?=some (.cells cur 51 (0,0)))∧Oth w.heap.size w1 wr
theorem ownTerms_any(m:Nat)(ih:OwnUpto m)(ts:List Raw)(A:Option Addr)(c:Nat)(w:World)(hm:Raw.sizes ts<=m)(hmax:ts.length<=1000000)(h:TreesAt w A ts) :
  Calls Tryz.prog 110 #[.slice A ts.length c] w fun e w'=>(∃A' c',e=.returned (.slice A' ts.length c')/\ts.length<=c'/\TreesAtP (fun b=>w.heap.size<=b) w' A' ts)/\zb w w':=by
 have HA:=zH h;have IH:=zH ih;clear h ih;by_cases h0:ts.length=0
 ·obtain rfl:ts=[]:=Zz h0;clear h0;simp only[List.length_nil];go_enter Tryz.func110,Tryz.ntmps110;go_wp2_with fail;go_ret;exact⟨⟨none,0,rfl,zN _,fun h=>absurd rfl h⟩,zB _ _⟩
 have hz:((ts.length:Int) == 0)=false:=by simpa using h0
 have hz2:(ts.length == 0)=false:=by simpa using h0
 have hmk:=fun W=>makeTerms ts.length hmax W;obtain⟨w1,hw1⟩:∃w1,w.alloc (.cells (zeroRow ts.length).toArray 51)=w1:=⟨_,rfl⟩;have b1:=zG hw1;have q1:=zQ hw1;have l1:=zL q1;have I0:Hid (OwnI w w1 ts 0 w1):=zH ⟨⟨zeroRow ts.length,by rw[List.take_zero,List.nil_append,Nat.sub_zero];exact zeroRow_row _ _ _,by rw[<-hw1];exact cellsAt_made _ _ _⟩,⟨_,q1⟩,Oth.refl _ _⟩;have B1:=zH b1;clear b1 q1 h0;go_enter Tryz.func110,Tryz.ntmps110;go_wp2_with fail;clear hmk;go_loopw [14] (fun i wr=>∃k:Nat,k<=ts.length/\i=zI (k:Int)/\Hid (OwnI w w1 ts k wr)) (fun i _=>ts.length-(intOf i).toNat);case atStart=>exact⟨0,by omega,rfl,I0⟩
 clear I0 hw1;obtain⟨k,hk,rfl,HI⟩:=hrel;obtain⟨⟨xs,hrow,hcells⟩,⟨cur,hcur⟩,ho⟩:=HI.o;have hbw:zb w wr:=Oth.below B1.o ho (zN _) (by omega);have hsw:=ho.size;by_cases hlt:k<ts.length
 ·obtain⟨b,o,k1,n1,p1,us,B,c1,rfl,hb,ht,d0,d1,d2,d3,hcu,hB,hT⟩:=HA.o.at_ hlt;have f0:=(hbw.cell (p:=⟨b,o+k*4,none⟩) hb).trans d0;have f1:=(hbw.cell (p:=⟨b,o+k*4+1,none⟩) hb).trans d1;have f2:=(hbw.cell (p:=⟨b,o+k*4+2,none⟩) hb).trans d2;have f3:=(hbw.cell (p:=⟨b,o+k*4+3,none⟩) hb).trans d3;have hi0:=zP k;have hi1:(k:Int)<(ts.length:Int):=by omega
  have hmem:=Raw.sizes_mem ts ts[k] (Ze _);obtain⟨wx,hwx⟩:∃wx,wr.alloc (.cells (zT k1 n1 p1 B us c1) 51)=wx:=⟨_,rfl⟩;have bx:=zG hwx;have qx:=zQ hwx;have lx:=zL qx;obtain⟨y0,y1,y2,y3⟩:=cells4t qx;have CALL:=zH (IH.o ts[k] _ wx (by omega) (hT.below (hbw.trans (bx.mono hbw.size))));have HROW:=zH hrow;have HCE:=zH hcells;have HCU:=zH hcur;have HO:=zH ho;have BX:=zH bx;have HTK:=zH ht;have HWX:=zH hwx;have hxl:xs.length=4*ts.length:=by rw[hrow.len,Zq,List.length_take,List.length_replicate];omega
  have HXL:=zH hxl;clear hrow hcells hcur ho bx qx hT hB ht d0 d1 d2 d3 hwx hbw HI hxl;go_upto_region 7 with fail;rw[HWX.o];go_wp2_with fail;refine CALL.o.mono ?_;rintro e w5⟨⟨v5,rfl,hv5⟩,b5⟩;rw[HTK.o] at hv5;obtain⟨A5,c5,rfl,hp5⟩:=hv5.openT;have lcur:=zL HCU.o;have b5r:zb wr w5:=BX.o.trans (b5.mono BX.o.size);have hcur5:=(b5r.block _ lcur).trans HCU.o;have hcells5:CellsAt w5 w.heap.size 0 xs:=fun j u hj=>(b5r.cell (p:=⟨w.heap.size,0+j,none⟩) lcur).trans (HCE.o j u hj);obtain⟨s1,s2,s3,s4,a0,a1,a2,a3,g1,g2,g3,g4,⟨r0,r1,r2,r3⟩,⟨t0,t1,t2,t3⟩,hc4,ho4,hcur4⟩:=tput4row (i:=k) hcur5 hcells5 (by have:=HXL.o;omega) (zI k1) (S n1) (zI p1) (.slice A5 us.length c5);have HN:Hid (OwnI w w1 ts (k+1) s4):=zH (by
   refine⟨⟨_,?_,hc4⟩,hcur4,(HO.o.trans (zE b5r)).trans ho4⟩;rw[<-take_set ts zeroT k hlt];refine RowP.set ?_ k (by rw[Zq,List.length_take,List.length_replicate];omega) (RowP.keep (fun b hb hlt=>?_) (zR b5r.size ho4.size) (fun b _ hb=>hb) HROW.o)
   ·rw[HTK.o];refine TreeP.keep (fun b hb hlt=>?_) ho4.size (fun b _ hb=>?_) _ _ _ _ _ hp5
    ·have hb:wx.heap.size<=b:=hb;exact ho4.block b hlt (fun e=>by have:=zO e;omega)
    have hb:wx.heap.size<=b:=hb;show w.heap.size<b;omega
   have hb:w.heap.size<b:=hb;exact(ho4.block b (Zl hlt b5r.size) (fun e=>by have:=zO e;omega)).trans (b5r.block b hlt))
  clear hc4 ho4 hcur4 hcells5 hcur5 hp5 hv5 b5 b5r CALL;go_wp2_with fail;go_roundw;case rel=>exact⟨k+1,by omega,by go_num,HN⟩
  case measure=>simp[intOf];omega
 obtain rfl:k=ts.length:=by omega
 have HZ:Hid ((∃A' c',Ending.returned (.slice (some ⟨w.heap.size,0,none⟩) ts.length ts.length)=.returned (.slice A' ts.length c')/\ts.length<=c'/\TreesAtP (fun b=>w.heap.size<=b) wr A' ts)/\zb w wr):=zH (by
  refine⟨⟨_,_,rfl,zN _,fun _=>⟨w.heap.size,0,rfl,by omega,zN _,?_⟩⟩,hbw⟩;rw[List.take_length,Nat.sub_self,List.replicate_zero,List.append_nil] at hrow;exact(RowP.keep (fun _ _ _=>rfl) (zN _) (fun b _ hb=>by have hb:w.heap.size<b:=hb;show w.heap.size<=b;omega) hrow).lie hcells)
 clear hrow hcells hcur ho hbw HI;go_wp2_with fail;go_ret;exact HZ.o
theorem results_term{fn:Func}{p:Tmp}(h:fn.results=#[.cell p 51])(tmps:Array Value)(w:World)(g:Nat)(v0 v1 v2 v3:Value)(hp:tmps.getD p undef=.pointer (some ⟨g,0,none⟩))(hg:w.heap[g]?=some (.cells #[v0,v1,v2,v3] 51 (0,0))) :
  (results fn tmps).run Tryz.prog w=.ok (.agg #[v0,v1,v2,v3]) w :=
 results_cell_row h tmps w g _ _ _ _ hp hg Tryz.underlying51 rfl term_size
theorem ownTerm_upto(m:Nat)(hm:m<=1000000):OwnUpto m:=by
 induction m with
 |zero=>intro t v w h;have:=t.size_pos;omega
 |succ m ih =>
  intro t v w hsz hv;obtain⟨kd,nm,ps,ts⟩:=t;have hnm:=hv.name_le;obtain⟨A,c,rfl,hc,hA⟩:=hv.open_;simp only[Raw.size] at hsz;have hlen:=Raw.sizes_len ts;obtain⟨w1,hw1⟩:∃w1,w.alloc (.cells (zT kd nm ps A ts c) 51)=w1:=⟨_,rfl⟩;obtain⟨w2,hw2⟩:∃w2,w1.alloc (.cells #[zI 0,S [],zI 0,zS] 51)=w2:=⟨_,rfl⟩;have b1:=zG hw1;have b2:=zG hw2;have q1:=zQ hw1;have q2:=zQ hw2;have l1:=zL q1;have l2:=zL q2;have b02:zb w w2:=b1.trans (b2.mono (by omega));have Q1:=zH ((b2.block _ l1).trans q1);have Q2:=zH q2;have B02:=zH b02;have hs2:=b02.size;obtain⟨y0,y1,y2,y3⟩:=cells4t Q1.o;have CALL:=zH (ownTerms_any m (ih (by omega)) ts A c w2 (by omega) (by omega) (hA.below b02));clear ih hv hA b1 b2 q1 q2 b02;go_enter Tryz.func93,Tryz.ntmps93;go_wp2_with fail;refine CALL.o.mono ?_;rintro e w3⟨⟨A3,c3,rfl,hc3,hA3⟩,b3⟩;have q3:=(b3.block _ (by omega)).trans Q1.o;have q3r:=(b3.block _ l2).trans Q2.o;have z3:=zC q3 3;have f3:=zF q3 3;simp at z3;obtain⟨w4,hw4⟩:∃w4,w3.setCell ⟨w.heap.size,3,none⟩ (.slice A3 ts.length c3)=w4:=⟨_,rfl⟩;have o4:Oth w.heap.size w3 w4:=zV hw4;have q4:zk w4 w.heap.size (zT kd nm ps A3 ts c3) 51:=zU q3 hw4;have q4r:=o4.heap q3r (show w1.heap.size≠w.heap.size by omega);obtain⟨x0,x1,x2,x3⟩:=cells4t q4;obtain⟨s1,s2,s3,s4,g1,g2,g3,g4,⟨r0,r1,r2,r3⟩,⟨t0,t1,t2,t3⟩,hq,ho⟩:=tput4 q4r (zI kd) (S nm) (zI ps) (.slice A3 ts.length c3);have HQ:=zH hq;have HZ:Hid (TreeVP (fun b=>w.heap.size<=b) s4 (.node kd nm ps ts) (.agg (zT kd nm ps A3 ts c3))):=zH (by
   refine TreeVP.mk hnm hc3 (hA3.keep (fun b hb hlt=>?_) (zR o4.size ho.size) (fun b _ hb=>by have hb:w2.heap.size<=b:=hb;show w.heap.size<=b;omega));have hb:w2.heap.size<=b:=hb;exact(ho.block b (Zl hlt o4.size) (fun e=>by have:=zO e;omega)).trans (o4.block b hlt (fun e=>by have:=zO e;omega)))
  have HB:Hid (zb w s4):=zH (Oth.below (Oth.below (B02.o.trans (b3.mono hs2)) o4 (zN _) (zR hs2 b3.size)) ho (by omega) (zR (zR hs2 b3.size) o4.size));clear hq ho q4 q4r o4 q3 q3r hA3 b3 CALL;go_wp2_with fail;refine Zb (results_term rfl _ _ _ _ _ _ _ rfl HQ.o) ?_;exact⟨⟨_,rfl,HZ.o⟩,HB.o⟩
end
end Go.Proofs.YtadjpadieljjlaaGreat
namespace Lfc
structure Link where
 kind:Int
 term:Raw
 path:List Int
 fact:Int
def upOf(u:Raw):Option (List Int)→Int × List Link
 |none=>(0,[])
 |some []=>(1,[])
 |some (i :: q)=>(2,[⟨1,u,i :: q,0⟩])
def Raw.up(ks:List Int)(t u:Raw):Int × List Link:=upOf u (Raw.path ks t u)
theorem upOf_some{u:Raw}{q:List Int}(h:q.length≠0):upOf u (some q)=(2,[⟨1,u,q,0⟩]):=by
 cases q with
 |nil=>exact absurd rfl h
 |cons i r=>rfl
end Lfc
namespace Go.Proofs.YtadjpadieljjlaaGreat
open Go.RowKit _root_.Lfc
def IntsP(q:Nat→Prop)(w:World)(A:Option Addr)(zs:List Int):Prop:=zs≠[]→∃b o,A=some ⟨b,o,none⟩∧b<w.heap.size∧q b∧∀k,k<zs.length→w.cell? ⟨b,o+k,none⟩=some (.int .i64 (zs.getD k 0))
theorem IntsP.toO{q:Nat→Prop}{w:World}{A:Option Addr}{zs:List Int}(h:IntsP q w A zs):IntsO w A zs:=fun hne=>by
 obtain⟨b,o,hA,hlt,_,hc⟩:=h hne;exact⟨b,o,hA,hlt,hc⟩
theorem cell_kept{w w':World}{b o:Nat}(h:w'.heap[b]?=w.heap[b]?):w'.cell? ⟨b,o,none⟩=w.cell? ⟨b,o,none⟩:=by
 unfold World.cell?;rw[h]
theorem IntsP.keep{q q':Nat→Prop}{w w':World}{A:Option Addr}{zs:List Int}(hk:∀b,q b→b<w.heap.size→w'.heap[b]?=w.heap[b]?)(hs:w.heap.size≤w'.heap.size)(hq:∀b,b<w.heap.size→q b→q' b)(h:IntsP q w A zs):IntsP q' w' A zs:=fun hne=>by
 obtain⟨b,o,hA,hlt,hb,hc⟩:=h hne;exact⟨b,o,hA,Zl hlt hs,hq b hlt hb,fun k hk2=>(cell_kept (hk b hb hlt)).trans (hc k hk2)⟩
theorem TreeVP.keep{q q':Nat→Prop}{w w':World}{t:Raw}{v:Value}(hk:∀b,q b→b<w.heap.size→w'.heap[b]?=w.heap[b]?)(hs:w.heap.size≤w'.heap.size)(hq:∀b,b<w.heap.size→q b→q' b)(h:TreeVP q w t v):TreeVP q' w' t v:=by
 obtain⟨v0,v1,v2,v3,e,h⟩:=h;exact⟨v0,v1,v2,v3,e,TreeP.keep hk hs hq t _ _ _ _ h⟩
def LinkP(q:Nat→Prop)(w:World)(b o:Nat)(x:Link):Prop:=∃k n p ts At ct A c,x.term=.node k n p ts∧w.cell? ⟨b,o,none⟩=some (.int .i64 x.kind)∧w.cell? ⟨b,o+1,none⟩=some (.int .i64 k)∧w.cell? ⟨b,o+2,none⟩=some (S n)∧w.cell? ⟨b,o+3,none⟩=some (.int .i64 p)∧w.cell? ⟨b,o+4,none⟩=some (.slice At (List.length ts) ct)∧w.cell? ⟨b,o+5,none⟩=some (.slice A x.path.length c)∧w.cell? ⟨b,o+6,none⟩=some (.int .i64 x.fact)∧x.path.length≤c∧IntsP q w A x.path∧TreeVP q w x.term (.agg #[.int .i64 k,S n,.int .i64 p,.slice At (List.length ts) ct])
theorem LinkP.keep{q q':Nat→Prop}{w w':World}{b o:Nat}{x:Link}(hk:∀b,q b→b<w.heap.size→w'.heap[b]?=w.heap[b]?)(hs:w.heap.size≤w'.heap.size)(hq:∀b,b<w.heap.size→q b→q' b)(hb:q b)(hlt:b<w.heap.size)(h:LinkP q w b o x):LinkP q' w' b o x:=by
 obtain⟨k,n,p,ts,At,ct,A,c,e,h0,h1,h2,h3,h4,h5,h6,hc,hi,ht⟩:=h;have hc':=fun o=>cell_kept (o:=o) (hk b hb hlt);exact⟨k,n,p,ts,At,ct,A,c,e,(hc' _).trans h0,(hc' _).trans h1,(hc' _).trans h2,(hc' _).trans h3,(hc' _).trans h4,(hc' _).trans h5,(hc' _).trans h6,hc,hi.keep hk hs hq,ht.keep hk hs hq⟩
def LinksP(q:Nat→Prop)(w:World)(A:Option Addr)(l:List Link):Prop:=l≠[]→∃b o,A=some ⟨b,o,none⟩∧b<w.heap.size∧q b∧∀i(h:i<l.length),LinkP q w b (o+i*7) l[i]
theorem LinksP.keep{q q':Nat→Prop}{w w':World}{A:Option Addr}{l:List Link}(hk:∀b,q b→b<w.heap.size→w'.heap[b]?=w.heap[b]?)(hs:w.heap.size≤w'.heap.size)(hq:∀b,b<w.heap.size→q b→q' b)(h:LinksP q w A l):LinksP q' w' A l:=fun hne=>by
 obtain⟨b,o,hA,hlt,hb,h⟩:=h hne;exact⟨b,o,hA,Zl hlt hs,hq b hlt hb,fun i hi=>(h i hi).keep hk hs hq hb hlt⟩
theorem LinksP.below{q:Nat→Prop}{w w':World}{A:Option Addr}{l:List Link}(h:LinksP q w A l)(hb:Below w.heap.size w w'):LinksP q w' A l:=h.keep (fun b _ hlt=>hb.block b hlt) hb.size (fun _ _ h=>h)
theorem LinksP.nil{q:Nat→Prop}{w:World}{A:Option Addr}:LinksP q w A []:=fun h=>absurd rfl h
def EdgeAns(w:World)(g:Int × List Link)(e:Ending)(w':World):Prop:=(∃A c,e=.returned (.agg #[.int .i64 g.1,.slice A g.2.length c])∧g.2.length≤c∧LinksP (fun b=>w.heap.size≤b) w' A g.2)∧Below w.heap.size w w'
theorem put2{W:World}{R:Nat}{a0 a1:Value}{t:TypeId}(h:W.heap[R]?=some (.cells #[a0,a1] t (0,0)))(v0 v1:Value):∃s1 s2,W.setCell ⟨R,0,none⟩ v0=s1∧s1.setCell ⟨R,1,none⟩ v1=s2 ∧
  (W.cell? ⟨R,0,none⟩=some a0∧s1.cell? ⟨R,1,none⟩=some a1) ∧
  (W.frozen? ⟨R,0,none⟩=false∧s1.frozen? ⟨R,1,none⟩=false) ∧
  s2.heap[R]?=some (.cells #[v0,v1] t (0,0))∧Oth R W s2:=by
 obtain⟨s1,h1⟩:∃s1,W.setCell ⟨R,0,none⟩ v0=s1:=⟨_,rfl⟩;obtain⟨s2,h2⟩:∃s2,s1.setCell ⟨R,1,none⟩ v1=s2:=⟨_,rfl⟩;have q1:s1.heap[R]?=some (.cells #[v0,a1] t (0,0)):=zU h h1;have q2:s2.heap[R]?=some (.cells #[v0,v1] t (0,0)):=zU q1 h2;refine⟨s1,s2,h1,h2,⟨zC h 0,zC q1 1⟩,⟨zF h 0,zF q1 1⟩,q2,?_⟩;rw[←h2,←h1];exact(Oth.set W v0).trans (Oth.set _ v1)
theorem cells2e{W:World}{g:Nat}{v0 v1:Value}{t:TypeId}(h:W.heap[g]?=some (.cells #[v0,v1] t (0,0))):W.cell? ⟨g,0,none⟩=some v0∧W.cell? ⟨g,1,none⟩=some v1:=⟨zC h 0,zC h 1⟩
theorem edge_size:(Tryz.prog.info? 183).map (·.size)=some 2:=by kernel_rfl
theorem results_edge{fn:Func}{p:Tmp}(h:fn.results=#[.cell p 183])(tmps:Array Value)(w:World)(g:Nat)(v0 v1:Value)(hp:tmps.getD p undef=.pointer (some ⟨g,0,none⟩))(hg:w.heap[g]?=some (.cells #[v0,v1] 183 (0,0))) :
  (results fn tmps).run Tryz.prog w=.ok (.agg #[v0,v1]) w :=
 results_cell_row h tmps w g _ _ _ _ hp hg Tryz.underlying183 rfl edge_size
theorem intsP_own{w:World}{base:Nat}{A:Option Addr}{c:Nat}{zs:List Int}(h:w.ownsRow base 3 1 (.slice A zs.length c) zs.length (ints zs)):IntsP (fun b=>base≤b) w A zs:=fun hne=>by
 have hl:zs.length≠0:=fun e=>hne (Zz e);rcases h.2 with⟨h0,_⟩ | ⟨g,cap,cur,hv,_,hcur,_⟩
 ·injection h0 with _ e _;exact absurd e hl
 injection hv with hA _ _;subst hA;have hlt:=h.lt g rfl;refine⟨g,0,rfl,hlt.2,hlt.1,fun k hk=>?_⟩;have hce:=own_cells h k (.int .i64 (zs.getD k 0)) (by simp[ints,List.getD_eq_getElem?_getD,Zg hk]);exact hce
theorem PathAns.no{w:World}{e:Ending}{w':World}(h:PathAns w none e w'):e=.returned (.tuple #[.slice none 0 0,.bool false])∧Below w.heap.size w w':=by
 obtain⟨⟨_,he⟩ | ⟨q,A,c,h1,_⟩,hb⟩:=h
 ·exact⟨he,hb⟩
 cases h1
theorem PathAns.yes{w:World}{q:List Int}{e:Ending}{w':World}(h:PathAns w (some q) e w'):(∃A c,e=.returned (.tuple #[.slice A q.length c,.bool true])∧q.length≤c∧IntsP (fun b=>w.heap.size≤b) w' A q)∧Below w.heap.size w w':=by
 obtain⟨⟨h1,_⟩ | ⟨q',A,c,h1,he,hc,ho⟩,hb⟩:=h
 ·cases h1
 cases h1;exact⟨⟨A,c,he,hc,intsP_own ho⟩,hb⟩
theorem link_one{q:Nat→Prop}{w:World}{b:Nat}{k p:Int}{n:List UInt8}{ts:List Raw}{At A:Option Addr}{ct c:Nat}{x:Link}(h:w.heap[b]?=some (.cells #[.int .i64 x.kind,.int .i64 k,S n,.int .i64 p,.slice At (List.length ts) ct,.slice A x.path.length c,.int .i64 x.fact] 93 (0,0)))(hb:q b)(he:x.term=.node k n p ts)(hc:x.path.length≤c)(hi:IntsP q w A x.path)(ht:TreeVP q w x.term (.agg #[.int .i64 k,S n,.int .i64 p,.slice At (List.length ts) ct])):LinksP q w (some ⟨b,0,none⟩) [x]:=fun _=>by
 refine⟨b,0,rfl,zL h,hb,fun i hi1=>?_⟩;have hi1':i<1:=hi1;obtain rfl:i=0:=by omega
 exact⟨k,n,p,ts,At,ct,A,c,he,zC h 0,zC h 1,zC h 2,zC h 3,zC h 4,zC h 5,zC h 6,hc,hi,ht⟩
theorem edge_ans{w w3 w5 s:World}{R:Nat}{g:Int × List Link}{A:Option Addr}{c:Nat}(hg:g.2.length≤c)(hl:LinksP (fun b=>w.heap.size≤b) s A g.2)(b3:Below w.heap.size w w3)(b5:Below w3.heap.size w3 w5)(ho:Oth R w5 s)(hR:w.heap.size≤R)(hs:w.heap.size≤w3.heap.size):EdgeAns w g (.returned (.agg #[.int .i64 g.1,.slice A g.2.length c])) s :=
 ⟨⟨A,c,rfl,hg,hl⟩,Oth.below (b3.trans (b5.mono hs)) ho hR (zR hs b5.size)⟩
end Go.Proofs.YtadjpadieljjlaaGreat
