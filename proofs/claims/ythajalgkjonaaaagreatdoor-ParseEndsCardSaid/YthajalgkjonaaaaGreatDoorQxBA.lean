/- Parts of the proof that no input makes the law false: PaWi,PaFt. -/
import Derived.Great.BuildSlice
import Derived.Test.YthajalgkjonaaaaGreatDoorQxAT
import Derived.Test.YthajalgkjonaaaaGreatDoorQxAV
import Derived.Test.YthajalgkjonaaaaGreatDoorQxAZ
set_option linter.unusedVariables false
set_option linter.unusedSimpArgs false
namespace Lfc
def dec(n:Nat):List UInt8:=Go.Lib.decDigits n
def fixWord(f:Int):List UInt8:=if f=1 then [37,112,114,101,102,105,120] else if f=2 then [37,112,111,115,116,102,105,120] else if f=3 then [37,105,110,102,105,120,32,110,111,110,101] else if f=4 then [37,105,110,102,105,120,32,108,101,102,116] else [37,105,110,102,105,120,32,114,105,103,104,116]
def optW(c:UInt8)(q:List (List UInt8)):List Raw→List (List UInt8)
 |[]=>[]
 |t :: _=>[[c],t.fmt q]
def Itm.words1(q:List (List UInt8))(x:Itm):List (List UInt8) :=
 if x.kind=3 then [fixWord x.op.fix,dec x.op.prec.toNat,x.op.name]
 else [x.name]++optW 58 q x.type++optW 61 q x.value
end Lfc
namespace Go.Proofs.YthajalgkjonaaaaGreatDoor
open Go.RowKit
structure Wst(Wr:Nat)(A B:Option Addr)(d:Nat)(w:World)(K:Nat)(cs:Array Value)(qs:List (List UInt8))(ws:List (List UInt8))(A':Option Addr)(c':Nat)(W:World):Prop where
 wr:WrI Wr W A' c' B d ws qs
 kp:Kp (WE Wr A B) (WE Wr A' B) w W
 box:W.heap[K]?=some (.cells cs 42 (0,0))
 bel:Below Wr w W
theorem Wst.step{Wr:Nat}{A B:Option Addr}{d:Nat}{w:World}{K:Nat}{cs:Array Value}{qs ws ws':List (List UInt8)}{A1:Option Addr}{c1:Nat}{W W':World}(h:Wst Wr A B d w K cs qs ws A1 c1 W)(ha:WrA Wr A1 B d W ws' qs W'):∃A' c',Wst Wr A B d w K cs qs ws' A' c' W':=by
 obtain⟨A',c',h1,h2⟩:=ha
 exact⟨A',c',h1,h.kp.trans h2,(h2.keep K (lt_of_block h.box) (h.wr.not_E h.box (by decide) (by decide))).trans h.box,h.bel.trans (h2.below_of h.wr (Nat.le_refl _))⟩
theorem Wst.toA{Wr:Nat}{A B:Option Addr}{d:Nat}{w:World}{K:Nat}{cs:Array Value}{qs ws:List (List UInt8)}{A1:Option Addr}{c1:Nat}{W:World}(h:Wst Wr A B d w K cs qs ws A1 c1 W):WrA Wr A B d w ws qs W:=⟨A1,c1,h.wr,h.kp⟩
theorem Wst.start{Wr:Nat}{A B:Option Addr}{c d:Nat}{w:World}{qs ws:List (List UInt8)}(h:WrI Wr w A c B d ws qs)(cs:Array Value):Wst Wr A B d w w.heap.size cs qs ws A c (w.alloc (.cells cs 42)):=by
 have b:Below w.heap.size w (w.alloc (.cells cs 42)):=(Below.refl _ _).alloc (Nat.le_refl _) _
 exact⟨h.below b,Kp.of_below b,heap_alloc_new _ _,b.mono (by have:=h.lt;omega)⟩
theorem trees_head{w:World}{A:Option Addr}{t:Lfc.Raw}{r:List Lfc.Raw}(h:TreesAt w A (t :: r)):∃b o k n p us B c,A=some ⟨b,o,none⟩∧t=.node k n p us∧w.cell? ⟨b,o,none⟩=some (.int .i64 k)∧w.cell? ⟨b,o+1,none⟩=some (S n)∧w.cell? ⟨b,o+2,none⟩=some (.int .i64 p)∧w.cell? ⟨b,o+3,none⟩=some (.slice B us.length c)∧TreeV w t (.agg #[.int .i64 k,S n,.int .i64 p,.slice B us.length c]):=by
 obtain⟨b,o,k,n,p,us,B,c,hA,hb,ht,d0,d1,d2,d3,_,_,hT⟩:=h.at_ (i:=0) (by simp)
 simp only[Nat.zero_mul,Nat.add_zero] at d0 d1 d2 d3
 exact⟨b,o,k,n,p,us,B,c,hA,ht,d0,d1,d2,d3,hT⟩
set_option maxRecDepth 100000 in
set_option maxHeartbeats 8000000 in
theorem witem_cd{Wr:Nat}{w:World}{A B:Option Addr}{c d:Nat}{ws qs:List (List UInt8)}(h:WrI Wr w A c B d ws qs)(x:Lfc.Itm)(s:IS)(hk:x.kind=1∨x.kind=2)(hx:x.Sm)(hv:∀W,Below Wr w W→ItV W x s)(hl:ws.length≤1000000)(hq:qs.length≤1000000) :
  Calls Tryz.prog 27 #[.pointer (some ⟨Wr,0,none⟩),.agg (itCells x s)] w fun e w'=>e=.returned (.tuple #[])∧WrA Wr A B d w (ws++x.words1 qs) qs w':=by
 have HT:=Lib.hid (fun W hb=>(hv W hb).ty.1)
 have HV:=Lib.hid (fun W hb=>(hv W hb).va.1)
 have HTS:Hid (∀t∈x.trees,t.size≤1000000):=Lib.hid hx.trs
 have HWD:Hid (x.words1 qs=[x.name]++Lfc.optW 58 qs x.type++Lfc.optW 61 qs x.value):=Lib.hid (by unfold Lfc.Itm.words1;rw[if_neg (by omega)])
 rw[HWD.out]
 clear hx hv HWD
 have S0:=Wst.start h (itCells x s)
 obtain⟨wb,hwb⟩:∃wb,w.alloc (.cells (itCells x s) 42)=wb:=⟨_,rfl⟩
 rw[hwb] at S0
 have hlt:=h.lt
 have HTY:Hid (∀t r,x.type=t :: r→t.size≤1000000):=Lib.hid fun t r e=>HTS.out t (by simp[Lfc.Itm.trees,e])
 have HVA:Hid (∀t r,x.value=t :: r→t.size≤1000000):=Lib.hid fun t r e=>HTS.out t (by simp[Lfc.Itm.trees,e])
 clear h HTS
 obtain⟨kind,pos,name,type,value,⟨on,of,op⟩,som,params,blocks,fams,signs,orders,⟨lk,la,lp⟩,⟨rk,ra,rp⟩,rel,count⟩:=x
 simp only at HT HV hk HTY HVA ⊢
 simp only[itCells,Lfc.Ord.k,Lfc.Ord.a,Lfc.Ord.ps] at S0 hwb ⊢
 have main:∀q:Bool,(kind == 1)=q→(kind == 2)=!q→Calls Tryz.prog 27 #[.pointer (some ⟨Wr,0,none⟩),.agg #[.int .i64 kind,.int .i64 (pos:Int),S name,.slice s.ty.1 type.length s.ty.2,.slice s.va.1 value.length s.va.2,S on,.int .i64 of,.int .i64 op,.slice s.so.1 som.length s.so.2,.slice s.pa.1 params.length s.pa.2,.slice s.bl.1 blocks.length s.bl.2,.slice s.fa.1 fams.length s.fa.2,.slice s.si.1 signs.length s.si.2,.slice s.od.1 orders.length s.od.2,.int .i64 lk,.int .i64 la,.slice s.le.1 lp.length s.le.2,.int .i64 rk,.int .i64 ra,.slice s.ri.1 rp.length s.ri.2,.int .i64 rel,.int .i64 count]] w fun e w'=>e=.returned (.tuple #[])∧WrA Wr A B d w (ws++([name]++Lfc.optW 58 qs type++Lfc.optW 61 qs value)) qs w':=by
  intro q hq1 hq2
  clear hk
  cases q
  ·cases type
   ·cases value
    ·as_aux_lemma =>
     simp only[List.length_nil,List.length_cons,Lfc.optW,List.append_nil] at S0 hwb ⊢
     have S0:=Lib.hid S0
     have hb0:=S0.out.box
     have y0:=Lib.cell_of_heap hb0 0
     have y2:=Lib.cell_of_heap hb0 2
     simp at y0 y2
     have CA:=Lib.hid (wadd_new S0.out.wr [name] (by simp;omega))
     clear hb0
     go_enter Tryz.func27,Tryz.ntmps27
     go_upto_region 5 with fail
     clear hwb
     go_upto_region 6 with(go_at_call 50;refine CA.out.mono ?_;rintro e w1⟨rfl,hr⟩;obtain⟨A1,c1,S1⟩:=S0.out.step hr)
     clear hr CA y0 y2
     have S1:=Lib.hid S1
     have hb1:=S1.out.box
     have y3:=Lib.cell_of_heap hb1 3
     have y4:=Lib.cell_of_heap hb1 4
     simp at y3 y4
     clear hb1
     go_wp2_with fail
     go_end0
     exact⟨rfl,by simpa using S1.out.toA⟩
    ·as_aux_lemma =>
     simp only[List.length_nil,List.length_cons,Lfc.optW,List.append_nil] at S0 hwb ⊢
     have S0:=Lib.hid S0
     have hb0:=S0.out.box
     have y0:=Lib.cell_of_heap hb0 0
     have y2:=Lib.cell_of_heap hb0 2
     simp at y0 y2
     have CA:=Lib.hid (wadd_new S0.out.wr [name] (by simp;omega))
     clear hb0
     go_enter Tryz.func27,Tryz.ntmps27
     go_upto_region 5 with fail
     clear hwb
     go_upto_region 6 with(go_at_call 50;refine CA.out.mono ?_;rintro e w1⟨rfl,hr⟩;obtain⟨A1,c1,S1⟩:=S0.out.step hr)
     clear hr CA y0 y2
     have S1:=Lib.hid S1
     have hb1:=S1.out.box
     have y3:=Lib.cell_of_heap hb1 3
     have y4:=Lib.cell_of_heap hb1 4
     simp at y3 y4
     clear hb1
     have CAva:=Lib.hid (wadd_new S1.out.wr [[61]] (by simp;omega))
     go_upto_region 11 with(go_at_call 50;refine CAva.out.mono ?_;rintro e w2⟨rfl,hr⟩;obtain⟨A2,c2,S2⟩:=S1.out.step hr)
     clear hr CAva y3 y4
     have S2:=Lib.hid S2
     have hb2:=S2.out.box
     have y3:=Lib.cell_of_heap hb2 3
     have y4:=Lib.cell_of_heap hb2 4
     simp at y3 y4
     clear hb2
     obtain⟨b1,o1,k1,n1,p1,us1,D1,g1,hA1,ht1,d0,d1,d2,d3,hT1⟩:=trees_head (HV.out _ S2.out.bel)
     rw[hA1] at y4
     have CTva:=Lib.hid (wtree_any S2.out.wr _ _ hT1 (HVA.out _ _ rfl) (by simp;omega) (by omega))
     clear ht1 hT1
     go_wp2_with (go_at_call 51;refine CTva.out.mono ?_;rintro e w3⟨rfl,hr⟩;obtain⟨A3,c3,S3⟩:=S2.out.step hr)
     clear hr CTva y3 y4 d0 d1 d2 d3
     have S3:=Lib.hid S3
     have hb3:=S3.out.box
     have y3:=Lib.cell_of_heap hb3 3
     have y4:=Lib.cell_of_heap hb3 4
     simp at y3 y4
     clear hb3
     go_end0
     exact⟨rfl,by simpa using S3.out.toA⟩
   ·cases value
    ·as_aux_lemma =>
     simp only[List.length_nil,List.length_cons,Lfc.optW,List.append_nil] at S0 hwb ⊢
     have S0:=Lib.hid S0
     have hb0:=S0.out.box
     have y0:=Lib.cell_of_heap hb0 0
     have y2:=Lib.cell_of_heap hb0 2
     simp at y0 y2
     have CA:=Lib.hid (wadd_new S0.out.wr [name] (by simp;omega))
     clear hb0
     go_enter Tryz.func27,Tryz.ntmps27
     go_upto_region 5 with fail
     clear hwb
     go_upto_region 6 with(go_at_call 50;refine CA.out.mono ?_;rintro e w1⟨rfl,hr⟩;obtain⟨A1,c1,S1⟩:=S0.out.step hr)
     clear hr CA y0 y2
     have S1:=Lib.hid S1
     have hb1:=S1.out.box
     have y3:=Lib.cell_of_heap hb1 3
     have y4:=Lib.cell_of_heap hb1 4
     simp at y3 y4
     clear hb1
     have CAty:=Lib.hid (wadd_new S1.out.wr [[58]] (by simp;omega))
     go_upto_region 8 with(go_at_call 50;refine CAty.out.mono ?_;rintro e w2⟨rfl,hr⟩;obtain⟨A2,c2,S2⟩:=S1.out.step hr)
     clear hr CAty y3 y4
     have S2:=Lib.hid S2
     have hb2:=S2.out.box
     have y3:=Lib.cell_of_heap hb2 3
     have y4:=Lib.cell_of_heap hb2 4
     simp at y3 y4
     clear hb2
     obtain⟨b1,o1,k1,n1,p1,us1,D1,g1,hA1,ht1,d0,d1,d2,d3,hT1⟩:=trees_head (HT.out _ S2.out.bel)
     rw[hA1] at y3
     have CTty:=Lib.hid (wtree_any S2.out.wr _ _ hT1 (HTY.out _ _ rfl) (by simp;omega) (by omega))
     clear ht1 hT1
     go_upto_region 9 with(go_at_call 51;refine CTty.out.mono ?_;rintro e w3⟨rfl,hr⟩;obtain⟨A3,c3,S3⟩:=S2.out.step hr)
     clear hr CTty y3 y4 d0 d1 d2 d3
     have S3:=Lib.hid S3
     have hb3:=S3.out.box
     have y3:=Lib.cell_of_heap hb3 3
     have y4:=Lib.cell_of_heap hb3 4
     simp at y3 y4
     clear hb3
     go_wp2_with fail
     go_end0
     exact⟨rfl,by simpa using S3.out.toA⟩
    ·as_aux_lemma =>
     simp only[List.length_nil,List.length_cons,Lfc.optW,List.append_nil] at S0 hwb ⊢
     have S0:=Lib.hid S0
     have hb0:=S0.out.box
     have y0:=Lib.cell_of_heap hb0 0
     have y2:=Lib.cell_of_heap hb0 2
     simp at y0 y2
     have CA:=Lib.hid (wadd_new S0.out.wr [name] (by simp;omega))
     clear hb0
     go_enter Tryz.func27,Tryz.ntmps27
     go_upto_region 5 with fail
     clear hwb
     go_upto_region 6 with(go_at_call 50;refine CA.out.mono ?_;rintro e w1⟨rfl,hr⟩;obtain⟨A1,c1,S1⟩:=S0.out.step hr)
     clear hr CA y0 y2
     have S1:=Lib.hid S1
     have hb1:=S1.out.box
     have y3:=Lib.cell_of_heap hb1 3
     have y4:=Lib.cell_of_heap hb1 4
     simp at y3 y4
     clear hb1
     have CAty:=Lib.hid (wadd_new S1.out.wr [[58]] (by simp;omega))
     go_upto_region 8 with(go_at_call 50;refine CAty.out.mono ?_;rintro e w2⟨rfl,hr⟩;obtain⟨A2,c2,S2⟩:=S1.out.step hr)
     clear hr CAty y3 y4
     have S2:=Lib.hid S2
     have hb2:=S2.out.box
     have y3:=Lib.cell_of_heap hb2 3
     have y4:=Lib.cell_of_heap hb2 4
     simp at y3 y4
     clear hb2
     obtain⟨b1,o1,k1,n1,p1,us1,D1,g1,hA1,ht1,d0,d1,d2,d3,hT1⟩:=trees_head (HT.out _ S2.out.bel)
     rw[hA1] at y3
     have CTty:=Lib.hid (wtree_any S2.out.wr _ _ hT1 (HTY.out _ _ rfl) (by simp;omega) (by omega))
     clear ht1 hT1
     go_upto_region 9 with(go_at_call 51;refine CTty.out.mono ?_;rintro e w3⟨rfl,hr⟩;obtain⟨A3,c3,S3⟩:=S2.out.step hr)
     clear hr CTty y3 y4 d0 d1 d2 d3
     have S3:=Lib.hid S3
     have hb3:=S3.out.box
     have y3:=Lib.cell_of_heap hb3 3
     have y4:=Lib.cell_of_heap hb3 4
     simp at y3 y4
     clear hb3
     have CAva:=Lib.hid (wadd_new S3.out.wr [[61]] (by simp;omega))
     go_upto_region 11 with(go_at_call 50;refine CAva.out.mono ?_;rintro e w4⟨rfl,hr⟩;obtain⟨A4,c4,S4⟩:=S3.out.step hr)
     clear hr CAva y3 y4
     have S4:=Lib.hid S4
     have hb4:=S4.out.box
     have y3:=Lib.cell_of_heap hb4 3
     have y4:=Lib.cell_of_heap hb4 4
     simp at y3 y4
     clear hb4
     obtain⟨b3,o3,k3,n3,p3,us3,D3,g3,hA3,ht3,d0,d1,d2,d3,hT3⟩:=trees_head (HV.out _ S4.out.bel)
     rw[hA3] at y4
     have CTva:=Lib.hid (wtree_any S4.out.wr _ _ hT3 (HVA.out _ _ rfl) (by simp;omega) (by omega))
     clear ht3 hT3
     go_wp2_with (go_at_call 51;refine CTva.out.mono ?_;rintro e w5⟨rfl,hr⟩;obtain⟨A5,c5,S5⟩:=S4.out.step hr)
     clear hr CTva y3 y4 d0 d1 d2 d3
     have S5:=Lib.hid S5
     have hb5:=S5.out.box
     have y3:=Lib.cell_of_heap hb5 3
     have y4:=Lib.cell_of_heap hb5 4
     simp at y3 y4
     clear hb5
     go_end0
     exact⟨rfl,by simpa using S5.out.toA⟩
  ·cases type
   ·cases value
    ·as_aux_lemma =>
     simp only[List.length_nil,List.length_cons,Lfc.optW,List.append_nil] at S0 hwb ⊢
     have S0:=Lib.hid S0
     have hb0:=S0.out.box
     have y0:=Lib.cell_of_heap hb0 0
     have y2:=Lib.cell_of_heap hb0 2
     simp at y0 y2
     have CA:=Lib.hid (wadd_new S0.out.wr [name] (by simp;omega))
     clear hb0
     go_enter Tryz.func27,Tryz.ntmps27
     go_upto_region 5 with fail
     clear hwb
     go_upto_region 6 with(go_at_call 50;refine CA.out.mono ?_;rintro e w1⟨rfl,hr⟩;obtain⟨A1,c1,S1⟩:=S0.out.step hr)
     clear hr CA y0 y2
     have S1:=Lib.hid S1
     have hb1:=S1.out.box
     have y3:=Lib.cell_of_heap hb1 3
     have y4:=Lib.cell_of_heap hb1 4
     simp at y3 y4
     clear hb1
     go_wp2_with fail
     go_end0
     exact⟨rfl,by simpa using S1.out.toA⟩
    ·as_aux_lemma =>
     simp only[List.length_nil,List.length_cons,Lfc.optW,List.append_nil] at S0 hwb ⊢
     have S0:=Lib.hid S0
     have hb0:=S0.out.box
     have y0:=Lib.cell_of_heap hb0 0
     have y2:=Lib.cell_of_heap hb0 2
     simp at y0 y2
     have CA:=Lib.hid (wadd_new S0.out.wr [name] (by simp;omega))
     clear hb0
     go_enter Tryz.func27,Tryz.ntmps27
     go_upto_region 5 with fail
     clear hwb
     go_upto_region 6 with(go_at_call 50;refine CA.out.mono ?_;rintro e w1⟨rfl,hr⟩;obtain⟨A1,c1,S1⟩:=S0.out.step hr)
     clear hr CA y0 y2
     have S1:=Lib.hid S1
     have hb1:=S1.out.box
     have y3:=Lib.cell_of_heap hb1 3
     have y4:=Lib.cell_of_heap hb1 4
     simp at y3 y4
     clear hb1
     have CAva:=Lib.hid (wadd_new S1.out.wr [[61]] (by simp;omega))
     go_upto_region 11 with(go_at_call 50;refine CAva.out.mono ?_;rintro e w2⟨rfl,hr⟩;obtain⟨A2,c2,S2⟩:=S1.out.step hr)
     clear hr CAva y3 y4
     have S2:=Lib.hid S2
     have hb2:=S2.out.box
     have y3:=Lib.cell_of_heap hb2 3
     have y4:=Lib.cell_of_heap hb2 4
     simp at y3 y4
     clear hb2
     obtain⟨b1,o1,k1,n1,p1,us1,D1,g1,hA1,ht1,d0,d1,d2,d3,hT1⟩:=trees_head (HV.out _ S2.out.bel)
     rw[hA1] at y4
     have CTva:=Lib.hid (wtree_any S2.out.wr _ _ hT1 (HVA.out _ _ rfl) (by simp;omega) (by omega))
     clear ht1 hT1
     go_wp2_with (go_at_call 51;refine CTva.out.mono ?_;rintro e w3⟨rfl,hr⟩;obtain⟨A3,c3,S3⟩:=S2.out.step hr)
     clear hr CTva y3 y4 d0 d1 d2 d3
     have S3:=Lib.hid S3
     have hb3:=S3.out.box
     have y3:=Lib.cell_of_heap hb3 3
     have y4:=Lib.cell_of_heap hb3 4
     simp at y3 y4
     clear hb3
     go_end0
     exact⟨rfl,by simpa using S3.out.toA⟩
   ·cases value
    ·as_aux_lemma =>
     simp only[List.length_nil,List.length_cons,Lfc.optW,List.append_nil] at S0 hwb ⊢
     have S0:=Lib.hid S0
     have hb0:=S0.out.box
     have y0:=Lib.cell_of_heap hb0 0
     have y2:=Lib.cell_of_heap hb0 2
     simp at y0 y2
     have CA:=Lib.hid (wadd_new S0.out.wr [name] (by simp;omega))
     clear hb0
     go_enter Tryz.func27,Tryz.ntmps27
     go_upto_region 5 with fail
     clear hwb
     go_upto_region 6 with(go_at_call 50;refine CA.out.mono ?_;rintro e w1⟨rfl,hr⟩;obtain⟨A1,c1,S1⟩:=S0.out.step hr)
     clear hr CA y0 y2
     have S1:=Lib.hid S1
     have hb1:=S1.out.box
     have y3:=Lib.cell_of_heap hb1 3
     have y4:=Lib.cell_of_heap hb1 4
     simp at y3 y4
     clear hb1
     have CAty:=Lib.hid (wadd_new S1.out.wr [[58]] (by simp;omega))
     go_upto_region 8 with(go_at_call 50;refine CAty.out.mono ?_;rintro e w2⟨rfl,hr⟩;obtain⟨A2,c2,S2⟩:=S1.out.step hr)
     clear hr CAty y3 y4
     have S2:=Lib.hid S2
     have hb2:=S2.out.box
     have y3:=Lib.cell_of_heap hb2 3
     have y4:=Lib.cell_of_heap hb2 4
     simp at y3 y4
     clear hb2
     obtain⟨b1,o1,k1,n1,p1,us1,D1,g1,hA1,ht1,d0,d1,d2,d3,hT1⟩:=trees_head (HT.out _ S2.out.bel)
     rw[hA1] at y3
     have CTty:=Lib.hid (wtree_any S2.out.wr _ _ hT1 (HTY.out _ _ rfl) (by simp;omega) (by omega))
     clear ht1 hT1
     go_upto_region 9 with(go_at_call 51;refine CTty.out.mono ?_;rintro e w3⟨rfl,hr⟩;obtain⟨A3,c3,S3⟩:=S2.out.step hr)
     clear hr CTty y3 y4 d0 d1 d2 d3
     have S3:=Lib.hid S3
     have hb3:=S3.out.box
     have y3:=Lib.cell_of_heap hb3 3
     have y4:=Lib.cell_of_heap hb3 4
     simp at y3 y4
     clear hb3
     go_wp2_with fail
     go_end0
     exact⟨rfl,by simpa using S3.out.toA⟩
    ·as_aux_lemma =>
     simp only[List.length_nil,List.length_cons,Lfc.optW,List.append_nil] at S0 hwb ⊢
     have S0:=Lib.hid S0
     have hb0:=S0.out.box
     have y0:=Lib.cell_of_heap hb0 0
     have y2:=Lib.cell_of_heap hb0 2
     simp at y0 y2
     have CA:=Lib.hid (wadd_new S0.out.wr [name] (by simp;omega))
     clear hb0
     go_enter Tryz.func27,Tryz.ntmps27
     go_upto_region 5 with fail
     clear hwb
     go_upto_region 6 with(go_at_call 50;refine CA.out.mono ?_;rintro e w1⟨rfl,hr⟩;obtain⟨A1,c1,S1⟩:=S0.out.step hr)
     clear hr CA y0 y2
     have S1:=Lib.hid S1
     have hb1:=S1.out.box
     have y3:=Lib.cell_of_heap hb1 3
     have y4:=Lib.cell_of_heap hb1 4
     simp at y3 y4
     clear hb1
     have CAty:=Lib.hid (wadd_new S1.out.wr [[58]] (by simp;omega))
     go_upto_region 8 with(go_at_call 50;refine CAty.out.mono ?_;rintro e w2⟨rfl,hr⟩;obtain⟨A2,c2,S2⟩:=S1.out.step hr)
     clear hr CAty y3 y4
     have S2:=Lib.hid S2
     have hb2:=S2.out.box
     have y3:=Lib.cell_of_heap hb2 3
     have y4:=Lib.cell_of_heap hb2 4
     simp at y3 y4
     clear hb2
     obtain⟨b1,o1,k1,n1,p1,us1,D1,g1,hA1,ht1,d0,d1,d2,d3,hT1⟩:=trees_head (HT.out _ S2.out.bel)
     rw[hA1] at y3
     have CTty:=Lib.hid (wtree_any S2.out.wr _ _ hT1 (HTY.out _ _ rfl) (by simp;omega) (by omega))
     clear ht1 hT1
     go_upto_region 9 with(go_at_call 51;refine CTty.out.mono ?_;rintro e w3⟨rfl,hr⟩;obtain⟨A3,c3,S3⟩:=S2.out.step hr)
     clear hr CTty y3 y4 d0 d1 d2 d3
     have S3:=Lib.hid S3
     have hb3:=S3.out.box
     have y3:=Lib.cell_of_heap hb3 3
     have y4:=Lib.cell_of_heap hb3 4
     simp at y3 y4
     clear hb3
     have CAva:=Lib.hid (wadd_new S3.out.wr [[61]] (by simp;omega))
     go_upto_region 11 with(go_at_call 50;refine CAva.out.mono ?_;rintro e w4⟨rfl,hr⟩;obtain⟨A4,c4,S4⟩:=S3.out.step hr)
     clear hr CAva y3 y4
     have S4:=Lib.hid S4
     have hb4:=S4.out.box
     have y3:=Lib.cell_of_heap hb4 3
     have y4:=Lib.cell_of_heap hb4 4
     simp at y3 y4
     clear hb4
     obtain⟨b3,o3,k3,n3,p3,us3,D3,g3,hA3,ht3,d0,d1,d2,d3,hT3⟩:=trees_head (HV.out _ S4.out.bel)
     rw[hA3] at y4
     have CTva:=Lib.hid (wtree_any S4.out.wr _ _ hT3 (HVA.out _ _ rfl) (by simp;omega) (by omega))
     clear ht3 hT3
     go_wp2_with (go_at_call 51;refine CTva.out.mono ?_;rintro e w5⟨rfl,hr⟩;obtain⟨A5,c5,S5⟩:=S4.out.step hr)
     clear hr CTva y3 y4 d0 d1 d2 d3
     have S5:=Lib.hid S5
     have hb5:=S5.out.box
     have y3:=Lib.cell_of_heap hb5 3
     have y4:=Lib.cell_of_heap hb5 4
     simp at y3 y4
     clear hb5
     go_end0
     exact⟨rfl,by simpa using S5.out.toA⟩
 rcases hk with rfl | rfl
 ·exact main true rfl rfl
 ·exact main false rfl rfl
theorem fill6(a:Act)(l0 l1 l2 l3 l4 l5:List UInt8):Instr.fill (fun i=>some (i*1,1)) (Array.map (fun x=>(S []).cells[x % (S []).cells.size]!) (Array.range (6*1))) (Array.map (fun x=>match x with | (i,x)=>(i,a.eval x)) #[(0,Operand.const (S l0)),(1,Operand.const (S l1)),(2,Operand.const (S l2)),(3,Operand.const (S l3)),(4,Operand.const (S l4)),(5,Operand.const (S l5))]).toList=some #[S l0,S l1,S l2,S l3,S l4,S l5]:=by
 simp[Instr.fill,Act.eval,Value.cells,Array.range]
 rfl
theorem WrI.pushq{Wr:Nat}{w w2:World}{A B B2:Option Addr}{c d d2:Nat}{ws qs:List (List UInt8)}{n:List UInt8}(h:WrI Wr w A c B d ws qs)(hown:w2.ownsRow (Wr+1) 9 1 (.slice B2 (qs.length+1) d2) (qs.length+1) (qs.map S++[S n]))(hg:w.grownBy w2 (Value.slice B qs.length d).ownBlock)
  (hat:(Value.slice B2 (qs.length+1) d2).ownBlock=(Value.slice B qs.length d).ownBlock∨(Value.slice B2 (qs.length+1) d2).ownBlock=some w.heap.size) :
  w2.heap[Wr]?=some (.cells #[.slice A ws.length c,.slice B qs.length d] 81 (0,0))∧WrR Wr A B w ws (qs++[n]) (w2.setCell ⟨Wr,1,none⟩ (.slice B2 (qs.length+1) d2)):=by
 have hs:=hg.size
 have hl:=h.lt
 obtain⟨tA,tB⟩:=h.own_type
 have hBne:(Value.slice B qs.length d).ownBlock≠some Wr:=fun e=>by have:=(h.qwn.lt _ e).1;omega
 have q1:w2.heap[Wr]?=some (.cells #[.slice A ws.length c,.slice B qs.length d] 81 (0,0)):=(hg.block Wr hl (fun e=>hBne e.symm)).trans h.blk
 have o4:Oth Wr w2 (w2.setCell ⟨Wr,1,none⟩ (.slice B2 (qs.length+1) d2)):=Oth.set _ _
 have hB2:∀a,B2=some a→a.block≠Wr∧(some a.block=(Value.slice B qs.length d).ownBlock∨a.block=w.heap.size):=fun a ha=>by
  subst ha
  refine⟨fun e=>by have:=(hown.lt a.block rfl).1;omega,?_⟩
  rcases hat with e | e
  ·exact .inl e
  ·exact .inr (Option.some.inj e)
 have hBo:∀b,some b=(Value.slice B qs.length d).ownBlock→∃a,B=some a∧a.block=b:=fun b hb=>by
  rcases B with _ | a
  ·cases hb
  ·exact⟨a,rfl,(Option.some.inj hb).symm⟩
 refine⟨q1,A,c,B2,d2,⟨?_,?_,?_,?_⟩,?_⟩
 ·simp[World.setCell,Array.getElem?_modify,q1]
 ·have q:=h.own.kept hg (by
   rcases A with _ | a'
   ·exact .inl rfl
   ·refine .inr fun e=>?_
    obtain⟨a,ha,hb⟩:=hBo a'.block e
    exact h.dis a' a rfl ha hb.symm)
  exact q.kept o4 (Or.inr (fun e=>by have:=(q.lt _ e).1;omega))
 ·have:=hown.kept o4 (Or.inr (fun e=>by have:=(hown.lt _ e).1;omega))
  simpa using this
 ·intro a a' ha ha'
  rcases(hB2 a' ha').2 with e | e
  ·obtain⟨a0,h0,h1⟩:=hBo _ e
   rw[←h1]
   exact h.dis a a0 ha h0
  ·obtain⟨_,cs,hc⟩:=tA a ha
   have:=lt_of_block hc
   omega
 ·refine⟨o4.os.trans hg.os,o4.tape.trans hg.tape,o4.output.trans hg.output,Nat.le_trans hs o4.size,fun b hb he=>?_,fun b hb he=>?_⟩
  ·rw[o4.block b (by omega) (fun e=>he (.inl (Option.some.inj e))),hg.block b hb (fun e=>by
    obtain⟨a,ha,hab⟩:=hBo b e
    exact he (.inr (.inr ⟨a,ha,hab⟩)))]
  ·rintro (rfl | ⟨a,ha,rfl⟩ | ⟨a,ha,rfl⟩)
   ·exact he (.inl rfl)
   ·exact he (.inr (.inl ⟨a,ha,rfl⟩))
   ·rcases(hB2 a ha).2 with e | e
    ·obtain⟨a0,h0,h1⟩:=hBo _ e
     exact he (.inr (.inr ⟨a0,h0,h1⟩))
    ·omega
end Go.Proofs.YthajalgkjonaaaaGreatDoor
namespace Lfc
def joinW(ws:List (List UInt8)):List UInt8:=[32].intercalate ws
def bndsW(q:List (List UInt8))(l:List Bnd):List (List UInt8):=l.flatMap fun b=>[[123],b.1,[58],b.2.fmt q,[125]]
mutual
def Ord.words:Ord→List (List UInt8)
 |.node k a ps=>if k=1 then [dec a.toNat] else(if k=3 then [91] else [123]) :: (Ord.wordss ps++[if k=3 then [93] else [125]])
def Ord.wordss:List Ord→List (List UInt8)
 |[]=>[]
 |a :: r=>Ord.words a++Ord.wordss r
end
def fordsW(l:List (List UInt8 × Ord)):List (List UInt8):=l.flatMap fun x=>x.1 :: x.2.words
def barsW:List (List UInt8)→List (List UInt8)
 |[]=>[]
 |[b]=>[b]
 |b :: r=>b :: [124] :: barsW r
def signW(i:Int):List UInt8:=if i=1 then [43] else if i=2 then [45] else [42]
def relW(i:Int):List UInt8:=if i=1 then [60] else if i=2 then [60,61] else [61]
def Itm.words(q:List (List UInt8))(x:Itm):List (List UInt8) :=
 if x.kind=1∨x.kind=2∨x.kind=3 then x.words1 q
 else if x.kind=4 then [[37,98,108,111,99,107],x.name,[58]]++(if x.som.length=0 then [] else [115,111,109,101] :: bndsW q x.som)++[98,108,111,99,107] :: bndsW q x.params
 else if x.kind=5 then [[37,119,111,114,108,100,115],[40]]++barsW x.blocks++[41] :: x.fams
 else if x.kind=6 then [[37,109,111,100,101],x.name]++x.signs.map signW
 else if x.kind=7 then [[37,99,111,118,101,114,115],x.name]
 else if x.kind=8 then [[37,117,110,105,113,117,101],x.name]
 else if x.kind=9 then [[37,115,116,114,105,99,116],x.name]
 else if x.kind=10 then [37,116,101,114,109,105,110,97,116,101,115] :: fordsW x.orders
 else if x.kind=11 then [37,116,111,116,97,108] :: fordsW x.orders
 else if x.kind=12 then [[37,114,101,100,117,99,101,115],x.name]++x.left.words++[relW x.rel]++x.right.words
 else [37,113,117,101,114,121] :: dec x.count.toNat :: optW2 q x.type
where optW2 (q:List (List UInt8)):List Raw→List (List UInt8)
 |[]=>[]
 |t :: _=>[t.fmt q]
def Itm.quo(q:List (List UInt8))(x:Itm):List (List UInt8):=if x.kind=3 then q++[x.op.name] else q
def fmtIts(q:List (List UInt8)):List Itm→List UInt8
 |[]=>[]
 |x :: r=>joinW (x.words q)++[32,46,10]++fmtIts (x.quo q) r
def formatP(l:List Itm):List UInt8:=if wfItems l=0 then fmtIts [] l else []
end Lfc
namespace Go.Proofs.YthajalgkjonaaaaGreatDoor
open Go.RowKit
theorem WrI.clear{Wr:Nat}{w:World}{A B:Option Addr}{c d:Nat}{ws qs:List (List UInt8)}(h:WrI Wr w A c B d ws qs):WrI Wr (w.setCell ⟨Wr,0,none⟩ (.slice none 0 0)) none 0 B d [] qs∧Kp (WE Wr A B) (WE Wr none B) w (w.setCell ⟨Wr,0,none⟩ (.slice none 0 0)):=by
 have o4:Oth Wr w (w.setCell ⟨Wr,0,none⟩ (.slice none 0 0)):=Oth.set _ _
 refine⟨⟨by simp[World.setCell,Array.getElem?_modify,h.blk],own_nil _ _ _ _,h.qwn.kept o4 (Or.inr (fun e=>by have:=(h.qwn.lt _ e).1;omega)),fun a a' ha=>by cases ha⟩,o4.os,o4.tape,o4.output,o4.size,fun b hb he=>o4.block b hb (fun e=>he (.inl (Option.some.inj e))),fun b hb he=>?_⟩
 rintro (rfl | ⟨a,ha,rfl⟩ | ⟨a,ha,rfl⟩)
 ·exact he (.inl rfl)
 ·cases ha
 ·exact he (.inr (.inr ⟨a,ha,rfl⟩))
theorem WrI.kept{Wr b:Nat}{w w':World}{A B:Option Addr}{c d:Nat}{ws qs:List (List UInt8)}(h:WrI Wr w A c B d ws qs)(hk:Kept b w w')(hb:b<Wr)(hs:w.heap.size≤w'.heap.size):WrI Wr w' A c B d ws qs:=by
 obtain⟨tA,tB⟩:=h.own_type
 have main:∀(X:Option Addr)(n x:Nat)(xs:List Value),w.ownsRow (Wr+1) 9 1 (.slice X n x) n xs→w'.ownsRow (Wr+1) 9 1 (.slice X n x) n xs:=by
  intro X n x xs hown
  refine⟨hown.1,?_⟩
  rcases hown.2 with e | ⟨g,cap,cur,e,hbg,hg,r⟩
  ·exact .inl e
  ·exact .inr ⟨g,cap,cur,e,hbg,hk.cells hg (by omega) (by decide),r⟩
 exact⟨hk.cells h.blk (by omega) (by decide),main _ _ _ _ h.own,main _ _ _ _ h.qwn,h.dis⟩
theorem WrI.words{Wr:Nat}{w:World}{A B:Option Addr}{c d:Nat}{ws qs:List (List UInt8)}(h:WrI Wr w A c B d ws qs)(hne:ws≠[]):∃g,A=some ⟨g,0,none⟩∧g<w.heap.size∧ws.length≤c∧∀j x,(ws.map fun l=>(⟨l.toArray⟩:ByteArray))[j]?=some x→w.cell? ⟨g,0+j,none⟩=some (.string x):=by
 rcases h.own.2 with⟨_,h0⟩ | ⟨g,cap,cur,hv,hbg,hg,hnc,_⟩
 ·exact absurd (List.length_eq_zero_iff.1 h0) hne
 ·have hv':=hv
  injection hv' with e1 _ e3
  subst e1 e3
  refine⟨g,rfl,lt_of_block hg,hnc,fun j x hj=>?_⟩
  rw[List.getElem?_map,Option.map_eq_some_iff] at hj
  obtain⟨s,hs,rfl⟩:=hj
  have:=h.own.cells (g:=g) rfl j (S s) (by simp[hs])
  rw[show(⟨g,0,none⟩:Addr).add j=⟨g,0+j,none⟩ by unfold Addr.add;split <;> simp_all] at this
  exact this
theorem join_map(ws:List (List UInt8)):Lib.join ((ws.map fun l=>(⟨l.toArray⟩:ByteArray)).map (·.data.toList)) [32]=Lfc.joinW ws:=by
 have:((ws.map fun l=>(⟨l.toArray⟩:ByteArray)).map (·.data.toList))=ws:=by
  induction ws with
  |nil=>rfl
  |cons a r ih=>rw[List.map_cons,List.map_cons,ih]
 rw[this]
 rfl
theorem joinW_len(ws:List (List UInt8)):ws.length≤(Lfc.joinW ws).length+1:=by
 cases ws with
 |nil=>simp
 | cons x r =>
  have h2:r.length≤(Lib.joinTail [32] r).length:=by
   unfold Lib.joinTail
   induction r with
   |nil=>simp
   |cons a r ih=>simp only[List.map_cons,List.flatten_cons,List.length_append,List.length_cons,List.length_nil] at ih ⊢;omega
  rw[show Lfc.joinW (x :: r)=x++Lib.joinTail [32] r from Lib.join_cons x r [32],List.length_append,List.length_cons]
  omega
def ItemC(y:Lfc.Itm × IS):Prop:=∀(Wr:Nat)(w:World)(A B:Option Addr)(c d:Nat)(ws qs:List (List UInt8)),WrI Wr w A c B d ws qs→(∀W,Below Wr w W→ItV W y.1 y.2)→ws.length≤1000000→qs.length≤1000000 →
 Calls Tryz.prog 27 #[.pointer (some ⟨Wr,0,none⟩),.agg (itCells y.1 y.2)] w fun e w'=>e=.returned (.tuple #[])∧WrR Wr A B w (ws++y.1.words qs) (y.1.quo qs) w'
set_option maxRecDepth 100000 in
set_option maxHeartbeats 8000000 in
theorem format_of(l:List (Lfc.Itm × IS))(A:Option Addr)(c:Nat)(w:World)(hA:ItsV w A l)(hJ:∀y∈l,∀q,(Lfc.joinW (y.1.words q)).length≤100000000000∧y.1.words q≠[])
  (hWF:Calls Tryz.prog 26 #[.slice A l.length c] w fun e w'=>e=.returned (.int .i64 (Lfc.wfItems (l.map Prod.fst)))∧Below w.heap.size w w')
  (hI:∀y∈l,Lfc.wfItems (l.map Prod.fst)=0→ItemC y) :
  Calls Tryz.prog 10 #[.slice A l.length c] w fun e w'=>e=.returned (S (Lfc.formatP (l.map Prod.fst)))∧Below w.heap.size w w':=by
 have HA:=Lib.hid hA
 have HJ:=Lib.hid hJ
 have HWF:=Lib.hid hWF
 have HI:=Lib.hid hI
 have h512:Hid (Lfc.wfItems (l.map Prod.fst)=0→l.length≤512):=Lib.hid fun h=>by
  unfold Lfc.wfItems at h
  split at h
  ·cases h
  ·rename_i h2;rw[List.length_map] at h2;omega
 clear hA hJ hWF hI
 by_cases hz:Lfc.wfItems (l.map Prod.fst)=0
 rotate_left
 ·have HR:Hid (Lfc.formatP (l.map Prod.fst)=[]):=Lib.hid (by unfold Lfc.formatP;rw[if_neg hz])
  rw[HR.out]
  have hz2:(Lfc.wfItems (l.map Prod.fst) != 0)=true:=by simpa using hz
  generalize Lfc.wfItems (l.map Prod.fst)=f at *
  clear hz HR HI
  go_enter Tryz.func10,Tryz.ntmps10
  go_wp2_with (go_at_call 26;refine HWF.out.mono ?_;rintro e w2⟨rfl,b2⟩)
  go_ret
  exact⟨rfl,b2⟩
 have hl:=h512.out hz
 obtain⟨R,hR⟩:∃R,Lfc.formatP (l.map Prod.fst)=R:=⟨_,rfl⟩
 have HR:Hid (Lfc.fmtIts [] (l.map Prod.fst)=R):=Lib.hid (by rw[←hR];unfold Lfc.formatP;rw[if_pos hz])
 rw[hR]
 have HI2:=Lib.hid (fun y hy=>HI.out y hy hz)
 rw[hz] at HWF
 clear hR hz HI h512
 go_enter Tryz.func10,Tryz.ntmps10
 go_upto_region 3 with(go_at_call 26;refine HWF.out.mono ?_;rintro e w2⟨rfl,b2⟩)
 obtain⟨w3,hw3⟩:∃w3,w2.alloc (.cells #[.pointer none,.slice none 0 0] 78)=w3:=⟨_,rfl⟩
 have bd3:=bld_new w2
 rw[hw3] at bd3
 have b3:Below w2.heap.size w2 w3:=by rw[←hw3];exact(Below.refl _ _).alloc (Nat.le_refl _) _
 have hs3:=eq2 (show w3.heap.size=w2.heap.size+1 by rw[←hw3];simp)
 go_upto_region 4 with fail
 clear hw3
 obtain⟨w4,hw4⟩:∃w4,w3.alloc (.cells #[.slice none 0 0,.slice none 0 0] 81)=w4:=⟨_,rfl⟩
 have b4:Below w3.heap.size w3 w4:=by rw[←hw4];exact(Below.refl _ _).alloc (Nat.le_refl _) _
 have q4:w4.heap[w3.heap.size]?=some (.cells #[.slice none 0 0,.slice none 0 0] 81 (0,0)):=by rw[←hw4];exact heap_alloc_new _ _
 go_upto_region 5 with fail
 clear hw4
 have W4:Hid (WrI w3.heap.size w4 none 0 none 0 [] []):=Lib.hid ⟨q4,own_nil _ _ _ _,own_nil _ _ _ _,fun a a' h=>by cases h⟩
 have bd4:Bld w2.heap.size w2.heap.size [] w4:=bd3.keep fun k cc t f hk _=>b4.block k (lt_of_block hk)
 have BD4:=Lib.hid bd4
 have B4:=Lib.hid (b2.trans ((b3.trans (b4.mono (by omega))).mono b2.size))
 have hs2:=b2.size
 have hlow:Hid (w.heap.size≤w2.heap.size∧w2.heap.size<w3.heap.size):=Lib.hid ⟨hs2,by omega⟩
 clear bd3 b3 q4 bd4 b2 b4 hs3 hs2
 generalize w2.heap.size=bb at *
 generalize w3.heap.size=Wr at *
 go_wp2_with fail
 go_loopw [14] (fun i wr=>∃(k:Nat)(acc:List UInt8)(A' B':Option Addr)(c' d':Nat)(ws qs:List (List UInt8)),k≤l.length∧i=.int .i64 k∧qs.length≤k∧acc.length≤k*100000000003∧Hid (Bld bb bb acc wr)∧Hid (WrI Wr wr A' c' B' d' ws qs)∧Hid (acc++Lfc.fmtIts qs ((l.drop k).map Prod.fst)=R)∧Hid (Below bb w wr→True)∧Hid (Below w.heap.size w wr)) (fun i _=>l.length-(intOf i).toNat)
 case atStart=>exact⟨0,[],none,none,0,0,[],[],by omega,rfl,by simp,by simp,BD4,W4,Lib.hid (by simpa using HR.out),Lib.hid fun _=>trivial,B4⟩
 case round =>
  clear HR BD4 W4 B4
  obtain⟨k,acc,A',B',c',d',ws,qs,hk,rfl,hql,hal,HB,HW,HM,_,HL⟩:=hrel
  have hsz:=HW.out.lt
  by_cases hlt:k<l.length
  ·have hlt2:decide ((k:Int)<(l.length:Int))=true:=by simpa using hlt
   have hmem:=List.getElem_mem hlt
   obtain⟨b,o,rfl,hb,hc,hi⟩:=HA.out (by intro e;rw[e] at hlt;simp at hlt)
   have hcell:∀j u,(itCells l[k].1 l[k].2)[j]?=some u→wr.cell? ⟨b,o+k*22+j,none⟩=some u:=fun j u hj=>by
    have hj22:j<22:=(Array.getElem?_eq_some_iff.1 hj).1
    have h1:=hc (k*22+j) u (by rw[itRow_at l k hlt j hj22];exact hj)
    rw[←Nat.add_assoc] at h1
    exact(HL.out.cell (p:=⟨b,_,none⟩) hb).trans h1
   have hld:=it_loadC hcell rfl
   have hone:=itCells_one l[k].1 l[k].2
   have HIT:Hid (∀W,Below w.heap.size wr W→ItV W l[k].1 l[k].2):=Lib.hid fun W hW=>(hi _ hmem).below (HL.out.trans hW)
   have HI1:=Lib.hid (HI2.out _ hmem)
   have HJ1:=Lib.hid (HJ.out _ hmem)
   have hm:=HM.out
   rw[List.drop_eq_getElem_cons hlt,List.map_cons,Lfc.fmtIts] at hm
   clear hc hi hmem hcell
   generalize hy:l[k]=y at *
   clear hy
   obtain⟨x,s⟩:=y
   simp only at hld hone HIT HJ1 hm
   have HJ2:=Lib.hid (HJ1.out qs)
   have HQ:Hid ((x.quo qs).length≤qs.length+1):=Lib.hid (by unfold Lfc.Itm.quo;split <;> simp)
   generalize hxw:x.words qs=xw at *
   generalize hxq:x.quo qs=xq at *
   have HIC:Hid (∀(w:World)(A B:Option Addr)(c d:Nat),WrI Wr w A c B d [] qs→(∀W,Below Wr w W→ItV W x s)→Calls Tryz.prog 27 #[.pointer (some ⟨Wr,0,none⟩),.agg (itCells x s)] w fun e w'=>e=.returned (.tuple #[])∧WrR Wr A B w xw xq w'):=Lib.hid fun W A B c d h1 h2=>by
    have:=HI1.out Wr W A B c d [] qs h1 h2 (by simp) (by omega)
    simp only[List.nil_append] at this
    rw[hxw,hxq] at this
    exact this
   obtain⟨kind,pos,name,type,value,⟨on,of,op⟩,som,params,blocks,fams,signs,orders,⟨lk,la,lp⟩,⟨rk,ra,rp⟩,rel,count⟩:=x
   simp only[itCells,Lfc.Ord.k,Lfc.Ord.a,Lfc.Ord.ps] at hld hone HIC
   have HON:=Lib.hid hone
   have HM:=Lib.hid hm
   obtain⟨w5,hw5⟩:∃w5,wr.alloc (.cells #[.int .i64 kind,.int .i64 (pos:Int),S name,.slice s.ty.1 type.length s.ty.2,.slice s.va.1 value.length s.va.2,S on,.int .i64 of,.int .i64 op,.slice s.so.1 som.length s.so.2,.slice s.pa.1 params.length s.pa.2,.slice s.bl.1 blocks.length s.bl.2,.slice s.fa.1 fams.length s.fa.2,.slice s.si.1 signs.length s.si.2,.slice s.od.1 orders.length s.od.2,.int .i64 lk,.int .i64 la,.slice s.le.1 lp.length s.le.2,.int .i64 rk,.int .i64 ra,.slice s.ri.1 rp.length s.ri.2,.int .i64 rel,.int .i64 count] 42)=w5:=⟨_,rfl⟩
   have b5:Below wr.heap.size wr w5:=by rw[←hw5];exact(Below.refl _ _).alloc (Nat.le_refl _) _
   have q5:w5.heap[wr.heap.size]?=some (.cells #[.int .i64 kind,.int .i64 (pos:Int),S name,.slice s.ty.1 type.length s.ty.2,.slice s.va.1 value.length s.va.2,S on,.int .i64 of,.int .i64 op,.slice s.so.1 som.length s.so.2,.slice s.pa.1 params.length s.pa.2,.slice s.bl.1 blocks.length s.bl.2,.slice s.fa.1 fams.length s.fa.2,.slice s.si.1 signs.length s.si.2,.slice s.od.1 orders.length s.od.2,.int .i64 lk,.int .i64 la,.slice s.le.1 lp.length s.le.2,.int .i64 rk,.int .i64 ra,.slice s.ri.1 rp.length s.ri.2,.int .i64 rel,.int .i64 count] 42 (0,0)):=by rw[←hw5];exact heap_alloc_new _ _
   have hi0:(0:Int)≤(k:Int):=Int.natCast_nonneg _
   have hi1:(k:Int)<(l.length:Int):=by omega
   have hW5:=HW.out.below b5
   obtain⟨hW6,hK6⟩:=hW5.clear
   have x0:=Lib.cell_of_heap hW5.blk 0
   have f0:=Lib.frozen_of_heap hW5.blk 0
   simp at x0
   obtain⟨w6,hw6⟩:∃w6,w5.setCell ⟨Wr,0,none⟩ (.slice none 0 0)=w6:=⟨_,rfl⟩
   rw[hw6] at hW6 hK6
   have q6:=(hK6.keep _ (lt_of_block q5) (hW5.not_E q5 (by decide) (by decide))).trans q5
   have bd5:Bld bb bb acc w5:=HB.out.keep fun kk cc t f hk _=>b5.block kk (lt_of_block hk)
   have bd6:Bld bb bb acc w6:=bd5.keep fun kk cc t f hk ht=>hK6.keep kk (lt_of_block hk) (hW5.not_E hk (by rcases ht with rfl | rfl <;> decide) (by rcases ht with rfl | rfl <;> decide))
   have L6:Below w.heap.size wr w6:=(b5.mono (by have:=HL.out.size;omega)).trans (hK6.below_of hW5 (by have:=hlow.out;omega))
   have HQ6:=Lib.hid q6
   have HB6:=Lib.hid bd6
   have HL6:=Lib.hid L6
   have HW6:=Lib.hid hW6
   have CI:=Lib.hid (HIC.out w6 none B' 0 d' hW6 (fun W hW=>HIT.out W (L6.trans (hW.mono (by have:=hlow.out;omega)))))
   clear hm hone q5 hW5 hW6 hK6 q6 bd5 bd6 L6 HIC hxw hxq HIT HI1 HB HW b5
   go_upto_region 7 with fail
   go_upto_region 8 with(first | (refine wpList_it (by rfl) (by rfl) (by rfl) hld ?_) | (refine wpList_it_new (by rfl) (by rfl) (by rfl) (by rfl) (by rfl) (by rfl) HON.out ?_;rw[hw5]))
   clear hld hw5
   go_upto_region 9 with fail
   clear hw6 x0 f0
   have hld:=it_load HQ6.out rfl
   go_upto_region 10 with(first | (refine wpList_it (by rfl) (by rfl) (by rfl) hld ?_) | (go_at_call 27;refine CI.out.mono ?_;rintro e w7⟨rfl,A7,c7,B7,d7,hW7,hK7⟩))
   clear hld
   obtain⟨g7,rfl,hg7,hgc7,hcell7⟩:=hW7.words HJ2.out.2
   have x7:=Lib.cell_of_heap hW7.blk 0
   simp at x7
   have bd7:Bld bb bb acc w7:=HB6.out.keep fun kk cc t f hk ht=>hK7.keep kk (lt_of_block hk) (HW6.out.not_E hk (by rcases ht with rfl | rfl <;> decide) (by rcases ht with rfl | rfl <;> decide))
   have HL7:=Lib.hid (HL6.out.trans (hK7.below_of HW6.out (by have:=hlow.out;omega)))
   have hjl:=HJ2.out.1
   have CJ:=Lib.hid (Tryz.strings_Join g7 0 c7 (xw.map fun l=>(⟨l.toArray⟩:ByteArray)) ⟨#[32]⟩ w7 hcell7 hg7 (by rw[List.length_map];have:=joinW_len xw;omega) (by rw[List.length_map];exact hgc7) (by rw[show(⟨#[32]⟩:ByteArray).data.toList=[32] from rfl,join_map xw];omega))
   rw[List.length_map] at CJ
   have hjm:=join_map xw
   rw[show(⟨#[32]⟩:ByteArray).data.toList=[32] from rfl,hjm] at CJ
   clear hjm hcell7
   have HW7:=Lib.hid hW7
   have HB7:=Lib.hid bd7
   generalize Lfc.joinW xw=J at *
   have hcat:(⟨J.toArray⟩:ByteArray) ++ ⟨#[32,46,10]⟩=⟨(J++[32,46,10]).toArray⟩:=bcat J [32,46,10]
   have hsz1:(⟨J.toArray⟩:ByteArray).size=J.length:=bsize J
   have hJl:(J++[32,46,10]).length=J.length+3:=by simp
   have hbw7:=HL7.out.size
   have CW:=Lib.hid (fun W (hb:Below w7.heap.size w7 W)=>writeString_any bb bb acc (J++[32,46,10]) W (HB7.out.keep fun kk cc t f hk _=>hb.block kk (lt_of_block hk)) (by rw[hJl];omega) (by have:=hb.size;have:=hlow.out;have:=HL.out.size;omega))
   rw[hJl] at CW
   have HJl:=Lib.hid hJl
   have HJ9:=Lib.hid hjl
   have hnl:¬ 9223372036854775807<J.length+3:=by omega
   have hbw9:w.heap.size≤w7.heap.size:=Nat.le_trans HL.out.size hbw7
   clear hW7 hK7 bd7 hjl hJl
   go_wp2_with (first | (go_at_call 29;refine CJ.out.mono ?_;rintro e w8⟨rfl,b8⟩;have z8:=(b8.cell (p:=⟨Wr,0,none⟩) (HW7.out.lt)).trans x7) | (go_at_call 28;refine(CW.out _ b8).mono ?_;rintro e w9⟨rfl,bd9,b9,k9⟩))
   have hr9:WrI Wr w9 (some ⟨g7,0,none⟩) c7 B7 d7 xw xq:=(HW7.out.below b8).kept k9 hlow.out.2 b9.size
   have L9:Below w.heap.size w w9:=HL.out.trans (HL7.out.trans ((b8.mono hbw9).trans (b9.mono hlow.out.1)))
   have HN:=Lib.hid (show(acc++(J++[32,46,10]))++Lfc.fmtIts xq ((l.drop (k+1)).map Prod.fst)=R by have:=HM.out;simpa[List.append_assoc] using this)
   have HB9:=Lib.hid bd9
   have HW9:=Lib.hid hr9
   have HL9:=Lib.hid L9
   have hq1:=HQ.out
   have hal9:(acc++(J++[32,46,10])).length≤(k+1)*100000000003:=by rw[List.length_append,HJl.out];have:=HJ9.out;omega
   clear bd9 b9 k9 b8 hr9 L9 HM
   go_roundw
   case rel=>exact⟨k+1,acc++(J++[32,46,10]),some ⟨g7,0,none⟩,B7,c7,d7,xw,xq,by omega,by go_num,by omega,hal9,HB9,HW9,HN,Lib.hid fun _=>trivial,HL9⟩
   case measure=>simp[intOf];omega
  ·have HZ:Hid (acc=R):=Lib.hid (by have:=HM.out;rw[List.drop_of_length_le (by omega)] at this;simpa[Lfc.fmtIts] using this)
   have hlt2:decide ((k:Int)<(l.length:Int))=false:=by simpa using hlt
   have CS:=Lib.hid (string_any bb bb acc wr HB.out (by have:=HL.out.size;have:=hlow.out;omega))
   go_wp2_with (go_at_call 30;refine CS.out.mono ?_;rintro e w9⟨rfl,bd9,b9,k9⟩)
   go_ret
   have e9:(Ending.returned (S acc))=.returned (S R):=by rw[HZ.out]
   exact⟨e9,HL.out.trans (b9.mono hlow.out.1)⟩
end Go.Proofs.YthajalgkjonaaaaGreatDoor
