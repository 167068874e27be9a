/- Parts of the proof that no input makes the law false: OpRes2. -/
import Derived.Test.YthajalgkjonaaaaGreatDoorQxAM
set_option linter.unusedVariables false
set_option linter.unusedSimpArgs false
namespace Go.Proofs.YthajalgkjonaaaaGreatDoor
open Go.RowKit Go.Maps Go.WideMaps
set_option maxRecDepth 100000 in
set_option maxHeartbeats 4000000 in
theorem res_pre(F:Prop)(w0:World)(Rb Mb:Nat)(l:List Lfc.Op)(m:Nat)(ih:ResUpto F w0 Rb Mb l m)(s:List Lfc.Opd)(A:Option Addr)(c:Nat)(w:World)(hpos:0<s.length)(hm:s.length≤m+1)(hl:s.length≤1000000)(hc:s.length≤c)(hsm:Small F s)(hs:OpdsAt w0 A s)(h:EnvR w0 Rb Mb l w)(hnz:0<(Lfc.low l s).at_.length)(hsame:(Lfc.low l s).same=true)(hf:(Lfc.low l s).first.fix=1) :
  Calls Tryz.prog 123 #[.pointer (some ⟨Rb,0,none⟩),.slice A s.length c] w (ResPost F w0 w Rb Mb (Lfc.resP l (m+1) s)):=by
 obtain⟨b0,o0,rfl,hb0,_⟩:=hs (by intro e;rw[e] at hpos;simp at hpos)
 obtain⟨wa,hwa⟩:∃wa,w.alloc (.cells #[.int .i64 0,S [],.int .i64 0,.slice none 0 0] 46)=wa:=⟨_,rfl⟩
 have ba:Below w.heap.size w wa:=by rw[←hwa];exact(Below.refl _ _).alloc (Nat.le_refl _) _
 have qr:wa.heap[w.heap.size]?=some (.cells #[.int .i64 0,S [],.int .i64 0,.slice none 0 0] 46 (0,0)):=by rw[←hwa];exact heap_alloc_new _ _
 have hsa:=eq2 (show wa.heap.size=w.heap.size+1 by rw[←hwa];simp)
 have HE:=Lib.hid (h.new ba)
 have hrb:=h.lt
 have hrge:=h.rge
 have hs0:=h.bel.size
 have BA:=Lib.hid ba
 have QR:=Lib.hid qr
 have HS:=Lib.hid hs
 have IH:=Lib.hid ih
 have HSM:=Lib.hid hsm
 have CL:=Lib.hid (lowest_any w0 Rb Mb l s _ c wa (by omega) hs HE.out)
 have HRP:Hid (Lfc.resP l (m+1) s=Lfc.resBody l (Lfc.resP l m) s):=Lib.hid (if_neg (by omega))
 have HPL:=Lib.hid (Lfc.low_at l s)
 have HOP:Hid (∀i,i∈(Lfc.low l s).at_→∀hl:i<s.length,s[i].tree.size≤100000000∧(s[i].tree.args=[]∨F)):=Lib.hid fun i hi hl=>hsm.op hi hl
 have hz2:((s.length:Int) == 0)=false:=by simp;intro e;rw[e] at hpos;simp at hpos
 clear h ba qr hs ih hsm
 have HR00:Hid (Lfc.resP l (m+1) s=Lfc.unT (Lfc.resP l m) (s.getD ((Lfc.low l s).at_.getD 0 0) Lfc.opdZ).tree (s.drop 1) (decide ((Lfc.low l s).at_.getD 0 0=0))):=Lib.hid (by rw[HRP.out];unfold Lfc.resBody;rw[if_neg (by omega),if_neg (by simp[hsame]),if_pos hf])
 generalize hL:Lfc.low l s=L at *
 obtain⟨at_,⟨fn,ff,fp⟩,sm⟩:=L
 simp only at hnz hsame HPL HOP CL hf HR00
 clear hL
 have hnz2:((at_.length:Int) == 0)=false:=by simp;intro e;rw[e] at hnz;simp at hnz
 subst hsame hf
 obtain⟨x,HX⟩:∃x,Hid (at_[0]=x):=⟨_,Lib.hid rfl⟩
 have hxl:x<s.length:=by rw[←HX.out];exact HPL.out.2 _ (List.getElem_mem _)
 have HXX:Hid (at_.getD 0 0=x):=Lib.hid (by rw[←HX.out];simp[hnz])
 have HXT:Hid ((s.getD (at_.getD 0 0) Lfc.opdZ).tree=s[x].tree):=Lib.hid (by rw[HXX.out];simp[hxl])
 go_enter Tryz.func123,Tryz.ntmps123
 go_upto_region 1 with fail
 clear hwa
 go_wp2_with fail
 refine CL.out.mono ?_
 rintro e w1⟨A1,c1,rfl,HO1,b1⟩
 have hs1:=b1.size
 unfold opV
 obtain⟨w2,hw2⟩:∃w2,w1.alloc (.cells #[S fn,.int .i64 1,.int .i64 fp] 34)=w2:=⟨_,rfl⟩
 have b2:Below w1.heap.size w1 w2:=by rw[←hw2];exact(Below.refl _ _).alloc (Nat.le_refl _) _
 have q2:w2.heap[w1.heap.size]?=some (.cells #[S fn,.int .i64 1,.int .i64 fp] 34 (0,0)):=by rw[←hw2];exact heap_alloc_new _ _
 have b12:Below wa.heap.size wa w2:=b1.trans (b2.mono hs1)
 have hs2:=b12.size
 have E2:=Lib.hid (HE.out.new b12)
 have QR2:=Lib.hid ((b12.block _ (by omega)).trans QR.out)
 have OW:=Lib.hid (Oth.of_below (T:=Rb) (BA.out.trans (b12.mono (by omega))))
 have HO2:=Lib.hid (own_below HO1.out b2)
 obtain⟨u0,u1,u2⟩:=cells3 q2
 have hu1:=lt_of_block q2
 have Q2:=Lib.hid q2
 have HW2:=Lib.hid hw2
 have hrb2:Rb<wa.heap.size:=by omega
 clear hw2 b1 b2 q2
 go_upto_region 4 with fail
 rw[HW2.out]
 obtain⟨gp,capp,curp,hvp,hgpb,hgph⟩:∃g cap cur,A1=some ⟨g,0,none⟩∧wa.heap.size≤g∧w2.heap[g]?=some (.cells cur 3 (0,0)):=by
  rcases HO2.out.2 with⟨_,h2⟩ | ⟨g,cap,cur,hv,hbg',hg,_⟩
  ·omega
  ·injection hv with e1 _ e3
   exact⟨g,cap,cur,e1,hbg',hg⟩
 subst hvp
 have hxc:w2.cell? ⟨gp,0,none⟩=some (.int .i64 (x:Int)):=by
  have:=own_cells HO2.out 0 (.int .i64 (x:Int)) (by rw[←HX.out];simp[natCells,show 0<at_.length by omega])
  rwa[Nat.zero_add] at this
 obtain⟨b0',o0',k1,n1,p1,us1,B1,cc1,hA0,_,hnd,e0,e1,e2,e3,e4,hT1⟩:=HS.out.at_ hxl
 cases hA0
 have bel:=E2.out.bel
 have d0:=(bel.cell (p:=⟨b0,_,none⟩) hb0).trans e0
 have d1:=(bel.cell (p:=⟨b0,_,none⟩) hb0).trans e1
 have d2:=(bel.cell (p:=⟨b0,_,none⟩) hb0).trans e2
 have d3:=(bel.cell (p:=⟨b0,_,none⟩) hb0).trans e3
 have d4:=(bel.cell (p:=⟨b0,_,none⟩) hb0).trans e4
 obtain⟨A3,c3,hsl,hA3,hc3⟩:=slice_from hpos hc HS.out
 have hrl:(s.drop 1).length≤m∧(s.drop 1).length≤1000000:=by rw[List.length_drop];omega
 have hrm:∀y∈s.drop 1,y∈s:=fun y hy=>(List.mem_of_mem_drop hy)
 obtain⟨rs,hrs⟩:∃rs,s.drop 1=rs:=⟨_,rfl⟩
 rw[hrs] at hsl hA3 hc3 hrl hrm HR00
 clear hrs
 have hsx:=HOP.out x (by rw[←HX.out];exact List.getElem_mem _) hxl
 have hi3:(0:Int)≤(x:Int):=Int.natCast_nonneg _
 have hi4:(x:Int)<(s.length:Int):=by omega
 have hi5:(0:Int)<(at_.length:Int):=by omega
 clear e0 e1 e2 e3 e4 hgph bel
 by_cases hx0:x=0
 ·have HR0:Hid (Lfc.resP l (m+1) s=Lfc.unT (Lfc.resP l m) s[x].tree rs true):=Lib.hid (by rw[HR00.out,HXT.out,HXX.out,decide_eq_true hx0])
  have hbx:((x:Int) == 0)=true:=by simp[hx0]
  clear hx0
  go_wp2_with fail
  have bz:Below w2.heap.size w2 w2.drew:=(Below.refl _ _).drew
  have QR3:=Lib.hid ((bz.block _ (by omega)).trans QR2.out)
  have OW3:=Lib.hid (OW.out.trans (Oth.of_below bz))
  have E3:=Lib.hid (E2.out.new bz)
  have hgp2:gp<w2.heap.size:=lt_of_cell' hxc
  have hb02:b0<w2.heap.size:=by have:=E2.out.bel.size;omega
  have SC:Hid (∀W:World,W.heap[gp]?=w2.heap[gp]?→W.heap[b0]?=w2.heap[b0]?→W.cell? ⟨gp,0,none⟩=some (.int .i64 (x:Int))∧W.cell? ⟨b0,o0+x*5,none⟩=some (.int .i64 k1)∧W.cell? ⟨b0,o0+x*5+1,none⟩=some (S n1)∧W.cell? ⟨b0,o0+x*5+2,none⟩=some (.int .i64 p1)∧W.cell? ⟨b0,o0+x*5+3,none⟩=some (.slice B1 us1.length cc1)∧W.cell? ⟨b0,o0+x*5+4,none⟩=some (.bool s[x].closed)):=Lib.hid (fun W h1 h2=>⟨(World.cell?_of_block h1).trans hxc,(World.cell?_of_block h2).trans d0,(World.cell?_of_block h2).trans d1,(World.cell?_of_block h2).trans d2,(World.cell?_of_block h2).trans d3,(World.cell?_of_block h2).trans d4⟩)
  clear bz
  have CU:=Lib.hid (unary_any F w0 Rb Mb l m IH.out s[x] _ rs A3 c3 true w2.drew hsx ⟨k1,n1,p1,us1,B1,cc1,hnd,rfl,hT1⟩ hrl.1 hrl.2 hc3 (fun y hy=>HSM.out y (hrm y hy)) hA3 E3.out)
  cases hres:Lfc.unT (Lfc.resP l m) s[x].tree rs true with
  | ok t =>
   rw[hres] at CU
   have HRES:Hid (Lfc.resP l (m+1) s=.ok t):=Lib.hid (by rw[HR0.out,hres])
   unfold ResPost ResOk at CU
   simp only at CU
   clear hres
   go_region_held3 (fun W=>W.cell? ⟨gp,0,none⟩=some (.int .i64 (x:Int))∧W.cell? ⟨b0,o0+x*5,none⟩=some (.int .i64 k1)∧W.cell? ⟨b0,o0+x*5+1,none⟩=some (S n1)∧W.cell? ⟨b0,o0+x*5+2,none⟩=some (.int .i64 p1)∧W.cell? ⟨b0,o0+x*5+3,none⟩=some (.slice B1 us1.length cc1)∧W.cell? ⟨b0,o0+x*5+4,none⟩=some (.bool s[x].closed))
    (first | exact SC.out _ rfl rfl | exact SC5 | exact SC4)
    (first | (go_at_call 170;((with_reducible refine CU.out.mono ?_));rintro ee w5⟨v5,rfl,ht5,o5,bad5,hc5⟩;obtain⟨k5,n5,p5,us5,A5,c5,e5,rfl,tp5⟩:=ht5.parts4;have TP5:=Lib.hid tp5;have hz5:=o5.size;have SC5:=SC.out w5 (o5.block _ hgp2 (fun e=>by have:=Option.some.inj e;omega)) (o5.block _ hb02 (fun e=>by have:=Option.some.inj e;omega));have qr5:=o5.heap QR3.out (by omega);obtain⟨s1,s2,s3,s4,g1,g2,g3,g4,⟨y0,y1,y2,y3⟩,⟨f0,f1,f2,f3⟩,hq,ho⟩:=put4 qr5 (.int .i64 k5) (S n5) (.int .i64 p5) (.slice A5 us5.length c5);have SC4:=SC.out s4 ((ho.block _ (Nat.lt_of_lt_of_le hgp2 hz5) (fun e=>by have:=Option.some.inj e;omega)).trans (o5.block _ hgp2 (fun e=>by have:=Option.some.inj e;omega))) ((ho.block _ (Nat.lt_of_lt_of_le hb02 hz5) (fun e=>by have:=Option.some.inj e;omega)).trans (o5.block _ hb02 (fun e=>by have:=Option.some.inj e;omega)));have HF:=Lib.hid (oth_fin (OW3.out.trans o5) (Below.refl _ _) ho (Nat.le_refl _) hrb hc5);have HO:=Lib.hid ho;have HQ:=Lib.hid hq;clear hq ho hc5 qr5))
   all_goals
    go_wp2_with fail
    refine bodyPost_ret (results_raw2 rfl _ _ _ _ _ _ _ rfl HQ.out) rfl ?_
    rw[HRES.out]
    refine⟨_,rfl,⟨_,_,_,_,rfl,?_⟩,HF.out.1,_,HF.out.2⟩
    exact TreeP.keep (fun b hb hlt=>HO.out.block b hlt (fun e=>by have:=Option.some.inj e;rcases hb with hb | hb;omega;have hb:w2.heap.size≤b:=hb;omega)) HO.out.size (fun b _ hb=>by rcases hb with hb | hb;exact .inl hb;have hb:w2.heap.size≤b:=hb;exact .inr (by omega)) _ _ _ _ _ TP5.out
  | error kk =>
   rw[hres] at CU
   have HRES:Hid (Lfc.resP l (m+1) s=.error kk):=Lib.hid (by rw[HR0.out,hres])
   unfold ResPost ResErr at CU
   simp only at CU
   clear hres
   go_region_held3 (fun W=>W.cell? ⟨gp,0,none⟩=some (.int .i64 (x:Int))∧W.cell? ⟨b0,o0+x*5,none⟩=some (.int .i64 k1)∧W.cell? ⟨b0,o0+x*5+1,none⟩=some (S n1)∧W.cell? ⟨b0,o0+x*5+2,none⟩=some (.int .i64 p1)∧W.cell? ⟨b0,o0+x*5+3,none⟩=some (.slice B1 us1.length cc1)∧W.cell? ⟨b0,o0+x*5+4,none⟩=some (.bool s[x].closed))
    (first | exact SC.out _ rfl rfl | exact SC5 | exact SC4)
    (first | (go_at_call 170;((with_reducible refine CU.out.mono ?_));rintro ee w5⟨rfl,o5,hc5⟩;have hz5:=o5.size;have SC5:=SC.out w5 (o5.block _ hgp2 (fun e=>by have:=Option.some.inj e;omega)) (o5.block _ hb02 (fun e=>by have:=Option.some.inj e;omega));have qr5:=o5.heap QR3.out (by omega);obtain⟨s1,s2,s3,s4,g1,g2,g3,g4,⟨y0,y1,y2,y3⟩,⟨f0,f1,f2,f3⟩,hq,ho⟩:=put4 qr5 (.int .i64 0) (S []) (.int .i64 0) (.slice none 0 0);have SC4:=SC.out s4 ((ho.block _ (Nat.lt_of_lt_of_le hgp2 hz5) (fun e=>by have:=Option.some.inj e;omega)).trans (o5.block _ hgp2 (fun e=>by have:=Option.some.inj e;omega))) ((ho.block _ (Nat.lt_of_lt_of_le hb02 hz5) (fun e=>by have:=Option.some.inj e;omega)).trans (o5.block _ hb02 (fun e=>by have:=Option.some.inj e;omega)));have HF:=Lib.hid (oth_fin (OW3.out.trans o5) (Below.refl _ _) ho (Nat.le_refl _) hrb hc5);have HO:=Lib.hid ho;have HQ:=Lib.hid hq;clear hq ho hc5 qr5))
   all_goals
    go_wp2_with fail
    refine bodyPost_ret (results_raw2 rfl _ _ _ _ _ _ _ rfl HQ.out) rfl ?_
    rw[HRES.out]
    exact⟨rfl,HF.out.1,HF.out.2⟩
 ·have HR0:Hid (Lfc.resP l (m+1) s=Lfc.unT (Lfc.resP l m) s[x].tree rs false):=Lib.hid (by rw[HR00.out,HXT.out,HXX.out,decide_eq_false hx0])
  have hbx:((x:Int) == 0)=false:=by simp;omega
  clear hx0
  go_wp2_with fail
  have bz:Below w2.heap.size w2 w2.drew:=(Below.refl _ _).drew
  have QR3:=Lib.hid ((bz.block _ (by omega)).trans QR2.out)
  have OW3:=Lib.hid (OW.out.trans (Oth.of_below bz))
  have E3:=Lib.hid (E2.out.new bz)
  have hgp2:gp<w2.heap.size:=lt_of_cell' hxc
  have hb02:b0<w2.heap.size:=by have:=E2.out.bel.size;omega
  have SC:Hid (∀W:World,W.heap[gp]?=w2.heap[gp]?→W.heap[b0]?=w2.heap[b0]?→W.cell? ⟨gp,0,none⟩=some (.int .i64 (x:Int))∧W.cell? ⟨b0,o0+x*5,none⟩=some (.int .i64 k1)∧W.cell? ⟨b0,o0+x*5+1,none⟩=some (S n1)∧W.cell? ⟨b0,o0+x*5+2,none⟩=some (.int .i64 p1)∧W.cell? ⟨b0,o0+x*5+3,none⟩=some (.slice B1 us1.length cc1)∧W.cell? ⟨b0,o0+x*5+4,none⟩=some (.bool s[x].closed)):=Lib.hid (fun W h1 h2=>⟨(World.cell?_of_block h1).trans hxc,(World.cell?_of_block h2).trans d0,(World.cell?_of_block h2).trans d1,(World.cell?_of_block h2).trans d2,(World.cell?_of_block h2).trans d3,(World.cell?_of_block h2).trans d4⟩)
  clear bz
  have CU:=Lib.hid (unary_any F w0 Rb Mb l m IH.out s[x] _ rs A3 c3 false w2.drew hsx ⟨k1,n1,p1,us1,B1,cc1,hnd,rfl,hT1⟩ hrl.1 hrl.2 hc3 (fun y hy=>HSM.out y (hrm y hy)) hA3 E3.out)
  cases hres:Lfc.unT (Lfc.resP l m) s[x].tree rs false with
  | ok t =>
   rw[hres] at CU
   have HRES:Hid (Lfc.resP l (m+1) s=.ok t):=Lib.hid (by rw[HR0.out,hres])
   unfold ResPost ResOk at CU
   simp only at CU
   clear hres
   go_region_held3 (fun W=>W.cell? ⟨gp,0,none⟩=some (.int .i64 (x:Int))∧W.cell? ⟨b0,o0+x*5,none⟩=some (.int .i64 k1)∧W.cell? ⟨b0,o0+x*5+1,none⟩=some (S n1)∧W.cell? ⟨b0,o0+x*5+2,none⟩=some (.int .i64 p1)∧W.cell? ⟨b0,o0+x*5+3,none⟩=some (.slice B1 us1.length cc1)∧W.cell? ⟨b0,o0+x*5+4,none⟩=some (.bool s[x].closed))
    (first | exact SC.out _ rfl rfl | exact SC5 | exact SC4)
    (first | (go_at_call 170;((with_reducible refine CU.out.mono ?_));rintro ee w5⟨v5,rfl,ht5,o5,bad5,hc5⟩;obtain⟨k5,n5,p5,us5,A5,c5,e5,rfl,tp5⟩:=ht5.parts4;have TP5:=Lib.hid tp5;have hz5:=o5.size;have SC5:=SC.out w5 (o5.block _ hgp2 (fun e=>by have:=Option.some.inj e;omega)) (o5.block _ hb02 (fun e=>by have:=Option.some.inj e;omega));have qr5:=o5.heap QR3.out (by omega);obtain⟨s1,s2,s3,s4,g1,g2,g3,g4,⟨y0,y1,y2,y3⟩,⟨f0,f1,f2,f3⟩,hq,ho⟩:=put4 qr5 (.int .i64 k5) (S n5) (.int .i64 p5) (.slice A5 us5.length c5);have SC4:=SC.out s4 ((ho.block _ (Nat.lt_of_lt_of_le hgp2 hz5) (fun e=>by have:=Option.some.inj e;omega)).trans (o5.block _ hgp2 (fun e=>by have:=Option.some.inj e;omega))) ((ho.block _ (Nat.lt_of_lt_of_le hb02 hz5) (fun e=>by have:=Option.some.inj e;omega)).trans (o5.block _ hb02 (fun e=>by have:=Option.some.inj e;omega)));have HF:=Lib.hid (oth_fin (OW3.out.trans o5) (Below.refl _ _) ho (Nat.le_refl _) hrb hc5);have HO:=Lib.hid ho;have HQ:=Lib.hid hq;clear hq ho hc5 qr5))
   all_goals
    go_wp2_with fail
    refine bodyPost_ret (results_raw2 rfl _ _ _ _ _ _ _ rfl HQ.out) rfl ?_
    rw[HRES.out]
    refine⟨_,rfl,⟨_,_,_,_,rfl,?_⟩,HF.out.1,_,HF.out.2⟩
    exact TreeP.keep (fun b hb hlt=>HO.out.block b hlt (fun e=>by have:=Option.some.inj e;rcases hb with hb | hb;omega;have hb:w2.heap.size≤b:=hb;omega)) HO.out.size (fun b _ hb=>by rcases hb with hb | hb;exact .inl hb;have hb:w2.heap.size≤b:=hb;exact .inr (by omega)) _ _ _ _ _ TP5.out
  | error kk =>
   rw[hres] at CU
   have HRES:Hid (Lfc.resP l (m+1) s=.error kk):=Lib.hid (by rw[HR0.out,hres])
   unfold ResPost ResErr at CU
   simp only at CU
   clear hres
   go_region_held3 (fun W=>W.cell? ⟨gp,0,none⟩=some (.int .i64 (x:Int))∧W.cell? ⟨b0,o0+x*5,none⟩=some (.int .i64 k1)∧W.cell? ⟨b0,o0+x*5+1,none⟩=some (S n1)∧W.cell? ⟨b0,o0+x*5+2,none⟩=some (.int .i64 p1)∧W.cell? ⟨b0,o0+x*5+3,none⟩=some (.slice B1 us1.length cc1)∧W.cell? ⟨b0,o0+x*5+4,none⟩=some (.bool s[x].closed))
    (first | exact SC.out _ rfl rfl | exact SC5 | exact SC4)
    (first | (go_at_call 170;((with_reducible refine CU.out.mono ?_));rintro ee w5⟨rfl,o5,hc5⟩;have hz5:=o5.size;have SC5:=SC.out w5 (o5.block _ hgp2 (fun e=>by have:=Option.some.inj e;omega)) (o5.block _ hb02 (fun e=>by have:=Option.some.inj e;omega));have qr5:=o5.heap QR3.out (by omega);obtain⟨s1,s2,s3,s4,g1,g2,g3,g4,⟨y0,y1,y2,y3⟩,⟨f0,f1,f2,f3⟩,hq,ho⟩:=put4 qr5 (.int .i64 0) (S []) (.int .i64 0) (.slice none 0 0);have SC4:=SC.out s4 ((ho.block _ (Nat.lt_of_lt_of_le hgp2 hz5) (fun e=>by have:=Option.some.inj e;omega)).trans (o5.block _ hgp2 (fun e=>by have:=Option.some.inj e;omega))) ((ho.block _ (Nat.lt_of_lt_of_le hb02 hz5) (fun e=>by have:=Option.some.inj e;omega)).trans (o5.block _ hb02 (fun e=>by have:=Option.some.inj e;omega)));have HF:=Lib.hid (oth_fin (OW3.out.trans o5) (Below.refl _ _) ho (Nat.le_refl _) hrb hc5);have HO:=Lib.hid ho;have HQ:=Lib.hid hq;clear hq ho hc5 qr5))
   all_goals
    go_wp2_with fail
    refine bodyPost_ret (results_raw2 rfl _ _ _ _ _ _ _ rfl HQ.out) rfl ?_
    rw[HRES.out]
    exact⟨rfl,HF.out.1,HF.out.2⟩
set_option maxRecDepth 100000 in
set_option maxHeartbeats 4000000 in
theorem res_post(F:Prop)(w0:World)(Rb Mb:Nat)(l:List Lfc.Op)(m:Nat)(ih:ResUpto F w0 Rb Mb l m)(s:List Lfc.Opd)(A:Option Addr)(c:Nat)(w:World)(hpos:0<s.length)(hm:s.length≤m+1)(hl:s.length≤1000000)(hc:s.length≤c)(hsm:Small F s)(hs:OpdsAt w0 A s)(h:EnvR w0 Rb Mb l w)(hnz:0<(Lfc.low l s).at_.length)(hsame:(Lfc.low l s).same=true)(hf:(Lfc.low l s).first.fix=2) :
  Calls Tryz.prog 123 #[.pointer (some ⟨Rb,0,none⟩),.slice A s.length c] w (ResPost F w0 w Rb Mb (Lfc.resP l (m+1) s)):=by
 obtain⟨b0,o0,rfl,hb0,_⟩:=hs (by intro e;rw[e] at hpos;simp at hpos)
 obtain⟨wa,hwa⟩:∃wa,w.alloc (.cells #[.int .i64 0,S [],.int .i64 0,.slice none 0 0] 46)=wa:=⟨_,rfl⟩
 have ba:Below w.heap.size w wa:=by rw[←hwa];exact(Below.refl _ _).alloc (Nat.le_refl _) _
 have qr:wa.heap[w.heap.size]?=some (.cells #[.int .i64 0,S [],.int .i64 0,.slice none 0 0] 46 (0,0)):=by rw[←hwa];exact heap_alloc_new _ _
 have hsa:=eq2 (show wa.heap.size=w.heap.size+1 by rw[←hwa];simp)
 have HE:=Lib.hid (h.new ba)
 have hrb:=h.lt
 have hrge:=h.rge
 have hs0:=h.bel.size
 have BA:=Lib.hid ba
 have QR:=Lib.hid qr
 have HS:=Lib.hid hs
 have IH:=Lib.hid ih
 have HSM:=Lib.hid hsm
 have CL:=Lib.hid (lowest_any w0 Rb Mb l s _ c wa (by omega) hs HE.out)
 have HRP:Hid (Lfc.resP l (m+1) s=Lfc.resBody l (Lfc.resP l m) s):=Lib.hid (if_neg (by omega))
 have HPL:=Lib.hid (Lfc.low_at l s)
 have HOP:Hid (∀i,i∈(Lfc.low l s).at_→∀hl:i<s.length,s[i].tree.size≤100000000∧(s[i].tree.args=[]∨F)):=Lib.hid fun i hi hl=>hsm.op hi hl
 have hz2:((s.length:Int) == 0)=false:=by simp;intro e;rw[e] at hpos;simp at hpos
 clear h ba qr hs ih hsm
 have HR00:Hid (Lfc.resP l (m+1) s=Lfc.unT (Lfc.resP l m) (s.getD (Lfc.lastOf (Lfc.low l s).at_) Lfc.opdZ).tree (s.take (s.length-1)) (decide (Lfc.lastOf (Lfc.low l s).at_=s.length-1))):=Lib.hid (by rw[HRP.out];unfold Lfc.resBody;rw[if_neg (by omega),if_neg (by simp[hsame]),if_neg (by omega),if_pos hf])
 generalize hL:Lfc.low l s=L at *
 obtain⟨at_,⟨fn,ff,fp⟩,sm⟩:=L
 simp only at hnz hsame HPL HOP CL hf HR00
 clear hL
 have hnz2:((at_.length:Int) == 0)=false:=by simp;intro e;rw[e] at hnz;simp at hnz
 subst hsame hf
 obtain⟨N,hN⟩:∃N,at_.length=N+1:=⟨at_.length-1,by omega⟩
 have HN:=Lib.hid hN
 have hN1:at_.length≤N+1:=by omega
 have hN2:N+1≤at_.length:=by omega
 clear hN
 obtain⟨x,HX⟩:∃x,Hid (at_[N]=x):=⟨_,Lib.hid rfl⟩
 have hxl:x<s.length:=by rw[←HX.out];exact HPL.out.2 _ (List.getElem_mem _)
 have HXX:Hid (Lfc.lastOf at_=x):=Lib.hid (by rw[←HX.out];unfold Lfc.lastOf;rw[show at_.length-1=N by omega];simp[show N<at_.length by omega])
 have HXT:Hid ((s.getD (Lfc.lastOf at_) Lfc.opdZ).tree=s[x].tree):=Lib.hid (by rw[HXX.out];simp[hxl])
 go_enter Tryz.func123,Tryz.ntmps123
 go_upto_region 1 with fail
 clear hwa
 go_wp2_with fail
 refine CL.out.mono ?_
 rintro e w1⟨A1,c1,rfl,HO1,b1⟩
 have hs1:=b1.size
 unfold opV
 obtain⟨w2,hw2⟩:∃w2,w1.alloc (.cells #[S fn,.int .i64 2,.int .i64 fp] 34)=w2:=⟨_,rfl⟩
 have b2:Below w1.heap.size w1 w2:=by rw[←hw2];exact(Below.refl _ _).alloc (Nat.le_refl _) _
 have q2:w2.heap[w1.heap.size]?=some (.cells #[S fn,.int .i64 2,.int .i64 fp] 34 (0,0)):=by rw[←hw2];exact heap_alloc_new _ _
 have b12:Below wa.heap.size wa w2:=b1.trans (b2.mono hs1)
 have hs2:=b12.size
 have E2:=Lib.hid (HE.out.new b12)
 have QR2:=Lib.hid ((b12.block _ (by omega)).trans QR.out)
 have OW:=Lib.hid (Oth.of_below (T:=Rb) (BA.out.trans (b12.mono (by omega))))
 have HO2:=Lib.hid (own_below HO1.out b2)
 obtain⟨u0,u1,u2⟩:=cells3 q2
 have hu1:=lt_of_block q2
 have Q2:=Lib.hid q2
 have HW2:=Lib.hid hw2
 have hrb2:Rb<wa.heap.size:=by omega
 clear hw2 b1 b2 q2
 go_upto_region 4 with fail
 rw[HW2.out]
 obtain⟨gp,capp,curp,hvp,hgpb,hgph⟩:∃g cap cur,A1=some ⟨g,0,none⟩∧wa.heap.size≤g∧w2.heap[g]?=some (.cells cur 3 (0,0)):=by
  rcases HO2.out.2 with⟨_,h2⟩ | ⟨g,cap,cur,hv,hbg',hg,_⟩
  ·omega
  ·injection hv with e1 _ e3
   exact⟨g,cap,cur,e1,hbg',hg⟩
 subst hvp
 have hxc:w2.cell? ⟨gp,N,none⟩=some (.int .i64 (x:Int)):=by
  have:=own_cells HO2.out N (.int .i64 (x:Int)) (by rw[←HX.out];simp[natCells,show N<at_.length by omega])
  rwa[Nat.zero_add] at this
 obtain⟨b0',o0',k1,n1,p1,us1,B1,cc1,hA0,_,hnd,e0,e1,e2,e3,e4,hT1⟩:=HS.out.at_ hxl
 cases hA0
 have bel:=E2.out.bel
 have d0:=(bel.cell (p:=⟨b0,_,none⟩) hb0).trans e0
 have d1:=(bel.cell (p:=⟨b0,_,none⟩) hb0).trans e1
 have d2:=(bel.cell (p:=⟨b0,_,none⟩) hb0).trans e2
 have d3:=(bel.cell (p:=⟨b0,_,none⟩) hb0).trans e3
 have d4:=(bel.cell (p:=⟨b0,_,none⟩) hb0).trans e4
 obtain⟨A3,c3,hsl,hA3,hc3⟩:=slice_to hpos hc HS.out
 have hrl:(s.take (s.length-1)).length≤m∧(s.take (s.length-1)).length≤1000000:=by rw[List.length_take];omega
 have hrm:∀y∈s.take (s.length-1),y∈s:=fun y hy=>(List.mem_of_mem_take hy)
 obtain⟨rs,hrs⟩:∃rs,s.take (s.length-1)=rs:=⟨_,rfl⟩
 rw[hrs] at hsl hA3 hc3 hrl hrm HR00
 clear hrs
 have hsx:=HOP.out x (by rw[←HX.out];exact List.getElem_mem _) hxl
 have hi3:(0:Int)≤(x:Int):=Int.natCast_nonneg _
 have hi4:(x:Int)<(s.length:Int):=by omega
 have hi5:(0:Int)<(at_.length:Int):=by omega
 have hatl:=Lfc.places_len HPL.out
 have hNle:N≤1000000:=by omega
 have hNi:(0:Int)≤(N:Int):=Int.natCast_nonneg _
 have hNj:(N:Int)≤1000000:=by omega
 clear hatl
 have hN:=HN.out
 have hw1:IntKind.i64.wrap ((s.length:Int)-1)=(s.length:Int)-1:=IntWalk.i64_in _ (by omega)
 have hw2x:(0:Int)≤(s.length:Int)-1:=by omega
 have hw3x:(s.length:Int)-1≤(c:Int):=by omega
 clear e0 e1 e2 e3 e4 hgph bel
 by_cases hx0:x=s.length-1
 ·have HR0:Hid (Lfc.resP l (m+1) s=Lfc.unT (Lfc.resP l m) s[x].tree rs true):=Lib.hid (by rw[HR00.out,HXT.out,HXX.out,decide_eq_true hx0])
  have hbx:((x:Int) == (s.length:Int)-1)=true:=by simp;omega
  clear hx0
  go_wp2_with fail
  have bz:Below w2.heap.size w2 w2.drew:=(Below.refl _ _).drew
  have QR3:=Lib.hid ((bz.block _ (by omega)).trans QR2.out)
  have OW3:=Lib.hid (OW.out.trans (Oth.of_below bz))
  have E3:=Lib.hid (E2.out.new bz)
  have hgp2:gp<w2.heap.size:=lt_of_cell' hxc
  have hb02:b0<w2.heap.size:=by have:=E2.out.bel.size;omega
  have SC:Hid (∀W:World,W.heap[gp]?=w2.heap[gp]?→W.heap[b0]?=w2.heap[b0]?→W.cell? ⟨gp,N,none⟩=some (.int .i64 (x:Int))∧W.cell? ⟨b0,o0+x*5,none⟩=some (.int .i64 k1)∧W.cell? ⟨b0,o0+x*5+1,none⟩=some (S n1)∧W.cell? ⟨b0,o0+x*5+2,none⟩=some (.int .i64 p1)∧W.cell? ⟨b0,o0+x*5+3,none⟩=some (.slice B1 us1.length cc1)∧W.cell? ⟨b0,o0+x*5+4,none⟩=some (.bool s[x].closed)):=Lib.hid (fun W h1 h2=>⟨(World.cell?_of_block h1).trans hxc,(World.cell?_of_block h2).trans d0,(World.cell?_of_block h2).trans d1,(World.cell?_of_block h2).trans d2,(World.cell?_of_block h2).trans d3,(World.cell?_of_block h2).trans d4⟩)
  clear bz
  have CU:=Lib.hid (unary_any F w0 Rb Mb l m IH.out s[x] _ rs A3 c3 true w2.drew hsx ⟨k1,n1,p1,us1,B1,cc1,hnd,rfl,hT1⟩ hrl.1 hrl.2 hc3 (fun y hy=>HSM.out y (hrm y hy)) hA3 E3.out)
  cases hres:Lfc.unT (Lfc.resP l m) s[x].tree rs true with
  | ok t =>
   rw[hres] at CU
   have HRES:Hid (Lfc.resP l (m+1) s=.ok t):=Lib.hid (by rw[HR0.out,hres])
   unfold ResPost ResOk at CU
   simp only at CU
   clear hres
   go_region_held3 (fun W=>W.cell? ⟨gp,N,none⟩=some (.int .i64 (x:Int))∧W.cell? ⟨b0,o0+x*5,none⟩=some (.int .i64 k1)∧W.cell? ⟨b0,o0+x*5+1,none⟩=some (S n1)∧W.cell? ⟨b0,o0+x*5+2,none⟩=some (.int .i64 p1)∧W.cell? ⟨b0,o0+x*5+3,none⟩=some (.slice B1 us1.length cc1)∧W.cell? ⟨b0,o0+x*5+4,none⟩=some (.bool s[x].closed))
    (first | exact SC.out _ rfl rfl | exact SC5 | exact SC4)
    (first | (go_at_call 170;((with_reducible refine CU.out.mono ?_));rintro ee w5⟨v5,rfl,ht5,o5,bad5,hc5⟩;obtain⟨k5,n5,p5,us5,A5,c5,e5,rfl,tp5⟩:=ht5.parts4;have TP5:=Lib.hid tp5;have hz5:=o5.size;have SC5:=SC.out w5 (o5.block _ hgp2 (fun e=>by have:=Option.some.inj e;omega)) (o5.block _ hb02 (fun e=>by have:=Option.some.inj e;omega));have qr5:=o5.heap QR3.out (by omega);obtain⟨s1,s2,s3,s4,g1,g2,g3,g4,⟨y0,y1,y2,y3⟩,⟨f0,f1,f2,f3⟩,hq,ho⟩:=put4 qr5 (.int .i64 k5) (S n5) (.int .i64 p5) (.slice A5 us5.length c5);have SC4:=SC.out s4 ((ho.block _ (Nat.lt_of_lt_of_le hgp2 hz5) (fun e=>by have:=Option.some.inj e;omega)).trans (o5.block _ hgp2 (fun e=>by have:=Option.some.inj e;omega))) ((ho.block _ (Nat.lt_of_lt_of_le hb02 hz5) (fun e=>by have:=Option.some.inj e;omega)).trans (o5.block _ hb02 (fun e=>by have:=Option.some.inj e;omega)));have HF:=Lib.hid (oth_fin (OW3.out.trans o5) (Below.refl _ _) ho (Nat.le_refl _) hrb hc5);have HO:=Lib.hid ho;have HQ:=Lib.hid hq;clear hq ho hc5 qr5))
   all_goals
    go_wp2_with fail
    refine bodyPost_ret (results_raw2 rfl _ _ _ _ _ _ _ rfl HQ.out) rfl ?_
    rw[HRES.out]
    refine⟨_,rfl,⟨_,_,_,_,rfl,?_⟩,HF.out.1,_,HF.out.2⟩
    exact TreeP.keep (fun b hb hlt=>HO.out.block b hlt (fun e=>by have:=Option.some.inj e;rcases hb with hb | hb;omega;have hb:w2.heap.size≤b:=hb;omega)) HO.out.size (fun b _ hb=>by rcases hb with hb | hb;exact .inl hb;have hb:w2.heap.size≤b:=hb;exact .inr (by omega)) _ _ _ _ _ TP5.out
  | error kk =>
   rw[hres] at CU
   have HRES:Hid (Lfc.resP l (m+1) s=.error kk):=Lib.hid (by rw[HR0.out,hres])
   unfold ResPost ResErr at CU
   simp only at CU
   clear hres
   go_region_held3 (fun W=>W.cell? ⟨gp,N,none⟩=some (.int .i64 (x:Int))∧W.cell? ⟨b0,o0+x*5,none⟩=some (.int .i64 k1)∧W.cell? ⟨b0,o0+x*5+1,none⟩=some (S n1)∧W.cell? ⟨b0,o0+x*5+2,none⟩=some (.int .i64 p1)∧W.cell? ⟨b0,o0+x*5+3,none⟩=some (.slice B1 us1.length cc1)∧W.cell? ⟨b0,o0+x*5+4,none⟩=some (.bool s[x].closed))
    (first | exact SC.out _ rfl rfl | exact SC5 | exact SC4)
    (first | (go_at_call 170;((with_reducible refine CU.out.mono ?_));rintro ee w5⟨rfl,o5,hc5⟩;have hz5:=o5.size;have SC5:=SC.out w5 (o5.block _ hgp2 (fun e=>by have:=Option.some.inj e;omega)) (o5.block _ hb02 (fun e=>by have:=Option.some.inj e;omega));have qr5:=o5.heap QR3.out (by omega);obtain⟨s1,s2,s3,s4,g1,g2,g3,g4,⟨y0,y1,y2,y3⟩,⟨f0,f1,f2,f3⟩,hq,ho⟩:=put4 qr5 (.int .i64 0) (S []) (.int .i64 0) (.slice none 0 0);have SC4:=SC.out s4 ((ho.block _ (Nat.lt_of_lt_of_le hgp2 hz5) (fun e=>by have:=Option.some.inj e;omega)).trans (o5.block _ hgp2 (fun e=>by have:=Option.some.inj e;omega))) ((ho.block _ (Nat.lt_of_lt_of_le hb02 hz5) (fun e=>by have:=Option.some.inj e;omega)).trans (o5.block _ hb02 (fun e=>by have:=Option.some.inj e;omega)));have HF:=Lib.hid (oth_fin (OW3.out.trans o5) (Below.refl _ _) ho (Nat.le_refl _) hrb hc5);have HO:=Lib.hid ho;have HQ:=Lib.hid hq;clear hq ho hc5 qr5))
   all_goals
    go_wp2_with fail
    refine bodyPost_ret (results_raw2 rfl _ _ _ _ _ _ _ rfl HQ.out) rfl ?_
    rw[HRES.out]
    exact⟨rfl,HF.out.1,HF.out.2⟩
 ·have HR0:Hid (Lfc.resP l (m+1) s=Lfc.unT (Lfc.resP l m) s[x].tree rs false):=Lib.hid (by rw[HR00.out,HXT.out,HXX.out,decide_eq_false hx0])
  have hbx:((x:Int) == (s.length:Int)-1)=false:=by simp;omega
  clear hx0
  go_wp2_with fail
  have bz:Below w2.heap.size w2 w2.drew:=(Below.refl _ _).drew
  have QR3:=Lib.hid ((bz.block _ (by omega)).trans QR2.out)
  have OW3:=Lib.hid (OW.out.trans (Oth.of_below bz))
  have E3:=Lib.hid (E2.out.new bz)
  have hgp2:gp<w2.heap.size:=lt_of_cell' hxc
  have hb02:b0<w2.heap.size:=by have:=E2.out.bel.size;omega
  have SC:Hid (∀W:World,W.heap[gp]?=w2.heap[gp]?→W.heap[b0]?=w2.heap[b0]?→W.cell? ⟨gp,N,none⟩=some (.int .i64 (x:Int))∧W.cell? ⟨b0,o0+x*5,none⟩=some (.int .i64 k1)∧W.cell? ⟨b0,o0+x*5+1,none⟩=some (S n1)∧W.cell? ⟨b0,o0+x*5+2,none⟩=some (.int .i64 p1)∧W.cell? ⟨b0,o0+x*5+3,none⟩=some (.slice B1 us1.length cc1)∧W.cell? ⟨b0,o0+x*5+4,none⟩=some (.bool s[x].closed)):=Lib.hid (fun W h1 h2=>⟨(World.cell?_of_block h1).trans hxc,(World.cell?_of_block h2).trans d0,(World.cell?_of_block h2).trans d1,(World.cell?_of_block h2).trans d2,(World.cell?_of_block h2).trans d3,(World.cell?_of_block h2).trans d4⟩)
  clear bz
  have CU:=Lib.hid (unary_any F w0 Rb Mb l m IH.out s[x] _ rs A3 c3 false w2.drew hsx ⟨k1,n1,p1,us1,B1,cc1,hnd,rfl,hT1⟩ hrl.1 hrl.2 hc3 (fun y hy=>HSM.out y (hrm y hy)) hA3 E3.out)
  cases hres:Lfc.unT (Lfc.resP l m) s[x].tree rs false with
  | ok t =>
   rw[hres] at CU
   have HRES:Hid (Lfc.resP l (m+1) s=.ok t):=Lib.hid (by rw[HR0.out,hres])
   unfold ResPost ResOk at CU
   simp only at CU
   clear hres
   go_region_held3 (fun W=>W.cell? ⟨gp,N,none⟩=some (.int .i64 (x:Int))∧W.cell? ⟨b0,o0+x*5,none⟩=some (.int .i64 k1)∧W.cell? ⟨b0,o0+x*5+1,none⟩=some (S n1)∧W.cell? ⟨b0,o0+x*5+2,none⟩=some (.int .i64 p1)∧W.cell? ⟨b0,o0+x*5+3,none⟩=some (.slice B1 us1.length cc1)∧W.cell? ⟨b0,o0+x*5+4,none⟩=some (.bool s[x].closed))
    (first | exact SC.out _ rfl rfl | exact SC5 | exact SC4)
    (first | (go_at_call 170;((with_reducible refine CU.out.mono ?_));rintro ee w5⟨v5,rfl,ht5,o5,bad5,hc5⟩;obtain⟨k5,n5,p5,us5,A5,c5,e5,rfl,tp5⟩:=ht5.parts4;have TP5:=Lib.hid tp5;have hz5:=o5.size;have SC5:=SC.out w5 (o5.block _ hgp2 (fun e=>by have:=Option.some.inj e;omega)) (o5.block _ hb02 (fun e=>by have:=Option.some.inj e;omega));have qr5:=o5.heap QR3.out (by omega);obtain⟨s1,s2,s3,s4,g1,g2,g3,g4,⟨y0,y1,y2,y3⟩,⟨f0,f1,f2,f3⟩,hq,ho⟩:=put4 qr5 (.int .i64 k5) (S n5) (.int .i64 p5) (.slice A5 us5.length c5);have SC4:=SC.out s4 ((ho.block _ (Nat.lt_of_lt_of_le hgp2 hz5) (fun e=>by have:=Option.some.inj e;omega)).trans (o5.block _ hgp2 (fun e=>by have:=Option.some.inj e;omega))) ((ho.block _ (Nat.lt_of_lt_of_le hb02 hz5) (fun e=>by have:=Option.some.inj e;omega)).trans (o5.block _ hb02 (fun e=>by have:=Option.some.inj e;omega)));have HF:=Lib.hid (oth_fin (OW3.out.trans o5) (Below.refl _ _) ho (Nat.le_refl _) hrb hc5);have HO:=Lib.hid ho;have HQ:=Lib.hid hq;clear hq ho hc5 qr5))
   all_goals
    go_wp2_with fail
    refine bodyPost_ret (results_raw2 rfl _ _ _ _ _ _ _ rfl HQ.out) rfl ?_
    rw[HRES.out]
    refine⟨_,rfl,⟨_,_,_,_,rfl,?_⟩,HF.out.1,_,HF.out.2⟩
    exact TreeP.keep (fun b hb hlt=>HO.out.block b hlt (fun e=>by have:=Option.some.inj e;rcases hb with hb | hb;omega;have hb:w2.heap.size≤b:=hb;omega)) HO.out.size (fun b _ hb=>by rcases hb with hb | hb;exact .inl hb;have hb:w2.heap.size≤b:=hb;exact .inr (by omega)) _ _ _ _ _ TP5.out
  | error kk =>
   rw[hres] at CU
   have HRES:Hid (Lfc.resP l (m+1) s=.error kk):=Lib.hid (by rw[HR0.out,hres])
   unfold ResPost ResErr at CU
   simp only at CU
   clear hres
   go_region_held3 (fun W=>W.cell? ⟨gp,N,none⟩=some (.int .i64 (x:Int))∧W.cell? ⟨b0,o0+x*5,none⟩=some (.int .i64 k1)∧W.cell? ⟨b0,o0+x*5+1,none⟩=some (S n1)∧W.cell? ⟨b0,o0+x*5+2,none⟩=some (.int .i64 p1)∧W.cell? ⟨b0,o0+x*5+3,none⟩=some (.slice B1 us1.length cc1)∧W.cell? ⟨b0,o0+x*5+4,none⟩=some (.bool s[x].closed))
    (first | exact SC.out _ rfl rfl | exact SC5 | exact SC4)
    (first | (go_at_call 170;((with_reducible refine CU.out.mono ?_));rintro ee w5⟨rfl,o5,hc5⟩;have hz5:=o5.size;have SC5:=SC.out w5 (o5.block _ hgp2 (fun e=>by have:=Option.some.inj e;omega)) (o5.block _ hb02 (fun e=>by have:=Option.some.inj e;omega));have qr5:=o5.heap QR3.out (by omega);obtain⟨s1,s2,s3,s4,g1,g2,g3,g4,⟨y0,y1,y2,y3⟩,⟨f0,f1,f2,f3⟩,hq,ho⟩:=put4 qr5 (.int .i64 0) (S []) (.int .i64 0) (.slice none 0 0);have SC4:=SC.out s4 ((ho.block _ (Nat.lt_of_lt_of_le hgp2 hz5) (fun e=>by have:=Option.some.inj e;omega)).trans (o5.block _ hgp2 (fun e=>by have:=Option.some.inj e;omega))) ((ho.block _ (Nat.lt_of_lt_of_le hb02 hz5) (fun e=>by have:=Option.some.inj e;omega)).trans (o5.block _ hb02 (fun e=>by have:=Option.some.inj e;omega)));have HF:=Lib.hid (oth_fin (OW3.out.trans o5) (Below.refl _ _) ho (Nat.le_refl _) hrb hc5);have HO:=Lib.hid ho;have HQ:=Lib.hid hq;clear hq ho hc5 qr5))
   all_goals
    go_wp2_with fail
    refine bodyPost_ret (results_raw2 rfl _ _ _ _ _ _ _ rfl HQ.out) rfl ?_
    rw[HRES.out]
    exact⟨rfl,HF.out.1,HF.out.2⟩
theorem res_upto(F:Prop)(w0:World)(Rb Mb:Nat)(l:List Lfc.Op):∀m,ResUpto F w0 Rb Mb l m
 |0=>fun s A c w hm hl hc hsm hs h=>by
  obtain rfl:=List.length_eq_zero_iff.1 (show s.length=0 by omega)
  rw[Lfc.resP]
  exact(res_nil F w0 Rb Mb l A c w h).mono (fun _ _ h=>h)
 | m + 1 => fun s A c w hm hl hc hsm hs h => by
  have ih:=res_upto F w0 Rb Mb l m
  by_cases e:s.length=0
  ·have h2:Lfc.resP l (m+1) s=.error 21:=if_pos e
   rw[h2]
   obtain rfl:=List.length_eq_zero_iff.1 e
   exact(res_nil F w0 Rb Mb l A c w h).mono (fun _ _ h=>h)
  have hpos:0<s.length:=by omega
  by_cases h0:(Lfc.low l s).at_.length=0
  ·exact res_app F w0 Rb Mb l m ih s A c w hpos hm hl hc hsm hs h h0
  have hnz:0<(Lfc.low l s).at_.length:=by omega
  cases hsame:(Lfc.low l s).same
  ·exact res_mixed F w0 Rb Mb l m ih s A c w hpos hm hl hc hsm hs h hnz hsame
  by_cases f1:(Lfc.low l s).first.fix=1
  ·exact res_pre F w0 Rb Mb l m ih s A c w hpos hm hl hc hsm hs h hnz hsame f1
  by_cases f2:(Lfc.low l s).first.fix=2
  ·exact res_post F w0 Rb Mb l m ih s A c w hpos hm hl hc hsm hs h hnz hsame f2
  by_cases f3:(Lfc.low l s).first.fix=3
  ·by_cases h1:1<(Lfc.low l s).at_.length
   ·exact res_two F w0 Rb Mb l m ih s A c w hpos hm hl hc hsm hs h hnz hsame f3 h1
   ·exact res_bin3 F w0 Rb Mb l m ih s A c w hpos hm hl hc hsm hs h hnz hsame f3 (by omega)
  ·exact res_binx F w0 Rb Mb l m ih s A c w hpos hm hl hc hsm hs h hnz hsame ⟨f1,f2,f3⟩
end Go.Proofs.YthajalgkjonaaaaGreatDoor
