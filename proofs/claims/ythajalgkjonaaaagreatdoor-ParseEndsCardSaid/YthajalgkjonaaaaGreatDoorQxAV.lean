/- Parts of the proof that no input makes the law false: PaExt2,PaFm2,PaSam4,PaLsB,PaMode. -/
import Derived.Deep.WholeRow
import Derived.Deep.RegionHeld
import Derived.Test.YthajalgkjonaaaaGreatDoorQxAI
import Derived.Test.YthajalgkjonaaaaGreatDoorQxAO
import Derived.Test.YthajalgkjonaaaaGreatDoorQxAR
import Derived.Test.YthajalgkjonaaaaGreatDoorQxAS
import Derived.Test.YthajalgkjonaaaaGreatDoorQxAT
import Derived.Test.YthajalgkjonaaaaGreatDoorQxAU
set_option linter.unusedVariables false
set_option linter.unusedSimpArgs false
namespace Lfc
theorem runP_ext(l:List Op)(s:List UInt8):runP s (fun t=>(itemsP t s.length l).then fun x k=>.ok x.2 k)=(extendP l s).then fun x k=>.ok x.2 k:=by
 unfold runP extendP
 split <;> rfl
theorem extendP_ne(l:List Op)(s:List UInt8):extendP l s≠.out:=by
 unfold extendP
 split
 ·simp
 ·exact(fair_items _ _ _).1
theorem extendP_nz(l:List Op)(s:List UInt8):NzE (extendP l s):=by
 unfold extendP
 split
 ·rename_i h
  intro c a e
  cases e
  exact h
 ·exact(fair_items _ _ _).2
theorem extendP_ok{l:List Op}{s:List UInt8}{x:List Itm × List Op}{k:Nat}(h:extendP l s=.ok x k):itemsP (lex s).1 s.length l=.ok x k:=by
 unfold extendP at h
 split at h
 ·cases h
 ·exact h
end Lfc
namespace Go.Proofs.YthajalgkjonaaaaGreatDoor
open Go.RowKit
def ItsV(W:World)(A:Option Addr)(xs:List (Lfc.Itm × IS)):Prop:=xs≠[]→∃b o,A=some ⟨b,o,none⟩∧b<W.heap.size∧CellsAt W b o (itRow xs)∧∀y∈xs,ItV W y.1 y.2
theorem ItsO.stays{base lo c:Nat}{W:World}{xs:List (Lfc.Itm × IS)}{A:Option Addr}(h:ItsO base W xs A c)(hlo:lo≤base):Stays (fun b=>lo≤b) W (fun V=>ItsV V A xs)∧xs.length≤c:=by
 have hall:∀y∈xs,Stays (fun b=>lo≤b) W fun V=>ItV V y.1 y.2:=fun y hy=>(h.its y hy).to (Nat.le_refl _) (fun _ _ _=>rfl) fun b _ hb=>Nat.le_trans hlo hb.1
 obtain⟨how,hit⟩:=h
 have hcl:xs.length≤c:=by
  rcases how.2 with⟨e,h0⟩ | ⟨g,cap,cur,hv,hbg,hg,h1,h2,h3,h4⟩
  ·rw[h0];exact Nat.zero_le _
  ·have hv':=hv
   injection hv with e1 _ e3
   subst e3
   omega
 refine⟨fun w' h1 h2 hne=>?_,hcl⟩
 rcases how.2 with⟨_,h0⟩ | ⟨g,cap,cur,hv,hbg,hg,_⟩
 ·exact absurd (List.length_eq_zero_iff.1 h0) hne
 ·have hv':=hv
  injection hv with e1 _ e3
  subst e1 e3
  have hlt:=lt_of_block hg
  refine⟨g,0,rfl,Nat.lt_of_lt_of_le hlt h1,fun j u hj=>?_,fun y hy=>hall y hy w' h1 h2⟩
  exact(World.cell?_of_block (a:=⟨g,0+j,none⟩) (h2 g (Nat.le_trans hlo hbg) hlt)).trans (own_cells how j u hj)
theorem RdR.mono{P X:Nat}{p:Lfc.PE}{W:World}{U:World→Prop}{V V':List Lfc.Op→World→Prop}(hV:∀l w,V l w→V' l w):∀(r:Lfc.PR (List Lfc.Op))(e:Ending)(w':World),RdR P X p W U V r e w'→RdR P X p W U V' r e w'
 |.out,_,_,h=>h
 |.err c a,_,_,h=>h
 |.ok l k,_,_,h=>⟨h.1,h.2.1,h.2.2.1,hV _ _ h.2.2.2⟩
def ExtR(n:Nat)(w:World):Lfc.PR (List Lfc.Itm × List Lfc.Op)→Ending→World→Prop
 |.out,_,_=>True
 |.err c a,e,w'=>e=.returned (.tuple #[.slice none 0 0,.slice none 0 0,.int .i64 c,.int .i64 (a:Int)])∧Below w.heap.size w w'
 |.ok x _,e,w'=>(∃xs A c B d,x.1=xs.map Prod.fst∧e=.returned (.tuple #[.slice A xs.length c,.slice B x.2.length d,.int .i64 0,.int .i64 (n:Int)])∧ItsV w' A xs∧xs.length≤c∧OpsAt w' B x.2)∧Below w.heap.size w w'
def DirsOK(s:List UInt8):Prop:=∀(k:Nat)(l':List Lfc.Op),k<(Lfc.lex s).1.length→l'.length≤1000000→((⟨(Lfc.lex s).1,s.length,l'⟩:Lfc.PE).pk k).kind=3→0≤Lfc.idxW ((⟨(Lfc.lex s).1,s.length,l'⟩:Lfc.PE).pk k).text Lfc.dirs→DirOK ⟨(Lfc.lex s).1,s.length,l'⟩ (Lfc.idxW ((⟨(Lfc.lex s).1,s.length,l'⟩:Lfc.PE).pk k).text Lfc.dirs)
set_option maxRecDepth 100000 in
set_option maxHeartbeats 4000000 in
theorem extend_any(l:List Lfc.Op)(A:Option Addr)(c:Nat)(s:List UInt8)(w:World)(hl:l.length≤900000)(ha:OpsAt w A l)(hs:s.length≤9223372036854775807)(hd:DirsOK s) :
  Calls Tryz.prog 19 #[.slice A l.length c,S s] w (ExtR s.length w (Lfc.extendP l s)):=by
 have hmf:∀(fn:Fn)(first cap:Array Value)(w:World),(Instr.makeFunc fn first cap).run Tryz.prog w=.ok (.func fn first cap) w:=fun _ _ _ _=>rfl
 obtain⟨wa,hwa⟩:∃wa,w.alloc (.cells #[.slice none 0 0] 23)=wa:=⟨_,rfl⟩
 have ba:Below w.heap.size w wa:=by rw[←hwa];exact(Below.refl _ _).alloc (Nat.le_refl _) _
 have q0:wa.heap[w.heap.size]?=some (.cells #[.slice none 0 0] 23 (0,0)):=by rw[←hwa];exact heap_alloc_new _ _
 have hsa:=eq2 (show wa.heap.size=w.heap.size+1 by rw[←hwa];simp)
 have CR:=prun_any 39 (fun _ _=>rfl) w.heap.size l A c s (fun t=>(Lfc.itemsP t s.length l).then fun x k=>.ok x.2 k) (BoxS w.heap.size) (fun l' W=>∃xs k A c,Lfc.itemsP (Lfc.lex s).1 s.length l=.ok (xs.map Prod.fst,l') k∧W.heap[w.heap.size]?=some (.cells #[.slice A xs.length c] 23 (0,0))∧Stays (fun b=>wa.heap.size+3≤b) W (fun V=>ItsV V A xs)∧xs.length≤c) wa (by omega) (ha.below ba) hs (by omega)
  (fun _=>Lfc.PR.then_ne_out (Lfc.fair_items _ _ _).1 (by simp))
  (fun l' W W' hV ho=>by
   obtain⟨xs,k,A,c,e,hq,hv,hc⟩:=hV
   exact⟨xs,k,A,c,e,(ho.block _ (lt_of_block hq) (by omega) (by omega) (by omega)).trans hq,hv.to ho.size (fun b hb hlt=>ho.block b hlt (by omega) (by omega) (by omega)) (fun _ _ h=>h),hc⟩)
  (fun W hb=>⟨_,(hb.block _ (by omega)).trans q0⟩) (fun W W' ⟨_,h⟩ ho=>⟨_,(ho.block _ (lt_of_block h) (by omega) (by omega) (by omega)).trans h⟩)
  (fun P G W _ hbW hP hpw ok hG=>(extend1_any (Lfc.lex s).1 s.length l ok P w.heap.size G W hpw ((hbW.block _ (by omega)).trans q0) (by omega) (hG.off (by omega)) hl hd).mono fun e w' h=>RdR.mono (fun l' W' ⟨xs,k,A,c,e,hb⟩=>⟨xs,k,A,c,e,hb.1,(hb.2.stays (by have:=hpw.lt;omega)).1,(hb.2.stays (Nat.le_refl _)).2⟩) _ _ _ h)
 have CR:=Lib.hid CR
 have BA:=Lib.hid ba
 have Q0:=Lib.hid q0
 clear ba q0 ha hd
 go_enter Tryz.func19,Tryz.ntmps19
 go_upto_region 2 with fail
 clear hwa
 have HRP:=Lib.hid (Lfc.runP_ext l s)
 cases hre:Lfc.extendP l s with
 |out=>exact absurd hre (Lfc.extendP_ne l s)
 |err cc aa =>
  have hcc:=Lfc.extendP_nz l s cc aa hre
  have hc2:(cc != 0)=true:=by simpa using hcc
  have CRE:=CR.out
  rw[HRP.out,hre] at CRE
  have CRE:=Lib.hid CRE
  have HRE:=Lib.hid hre
  clear hre hcc CR
  go_upto_region 3 with(go_at_call 33;refine CRE.out.mono ?_;rintro e w1⟨rfl,o1,v0,ha⟩)
  obtain⟨w2,hw2⟩:∃w2,w1.setCell ⟨w.heap.size,0,none⟩ (.slice none 0 0)=w2:=⟨_,rfl⟩
  have y0:=Lib.cell_of_heap ha 0
  have f0:=Lib.frozen_of_heap ha 0
  have ha2:=one_set (u:=.slice none 0 0) ha
  rw[hw2] at ha2
  have z0:=Lib.cell_of_heap ha2 0
  simp at y0 z0
  have o2:Oth w.heap.size w1 w2:=by rw[←hw2];exact Oth.set _ _
  have HBB:Hid (Below w.heap.size w w2):=Lib.hid (Oth.below (Oth.below BA.out o1 (by omega) (by omega)) o2 (Nat.le_refl _) (by have:=o1.size;omega))
  clear ha ha2 o1 o2
  go_wp2_with fail
  refine bodyPost_ret (v:=.tuple #[.slice none 0 0,.slice none 0 0,.int .i64 cc,.int .i64 (aa:Int)]) (by simp[results,Tryz.results19,go_sem]) rfl ?_
  rw[HRE.out]
  exact⟨rfl,HBB.out⟩
 | ok x k =>
  have hto:=Lfc.extendP_ok hre
  have CRE:=CR.out
  rw[HRP.out,hre] at CRE
  have CRE:=Lib.hid CRE
  have HTO:=Lib.hid hto
  have HRE:=Lib.hid hre
  clear hre CR hto
  go_upto_region 3 with(go_at_call 33;refine CRE.out.mono ?_;rintro e w1⟨⟨A1,d1,rfl,hops⟩,o1,xs,k',A2,c2,ht',hq,hv,hc⟩)
  have hx:x.1=xs.map Prod.fst:=by
   have:=HTO.out
   rw[ht'] at this
   injection this with e1 _
   exact(congrArg Prod.fst e1).symm
  have y0:=Lib.cell_of_heap hq 0
  simp at y0
  have HX:=Lib.hid hx
  have HV:=Lib.hid hv.here
  have HO:=Lib.hid hops
  have HBB:Hid (Below w.heap.size w w1):=Lib.hid (Oth.below BA.out o1 (by omega) (by omega))
  have HC:=Lib.hid hc
  clear hq hv hops o1 ht' hx HTO hc
  go_wp2_with fail
  refine bodyPost_ret (v:=.tuple #[.slice A2 xs.length c2,.slice A1 x.2.length d1,.int .i64 0,.int .i64 (s.length:Int)]) (by simp[results,Tryz.results19,go_sem]) rfl ?_
  rw[HRE.out]
  exact⟨⟨xs,A2,c2,A1,d1,HX.out,rfl,HV.out,HC.out,HO.out⟩,HBB.out⟩
set_option maxRecDepth 100000 in
set_option maxHeartbeats 4000000 in
theorem parse_any(s:List UInt8)(w:World)(hs:s.length≤9223372036854775807)(hd:DirsOK s) :
  Calls Tryz.prog 9 #[S s] w (ExtR s.length w (Lfc.extendP [] s)):=by
 have CE:=extend_any [] none 0 s w (by simp) ⟨fun x hx=>by simp at hx,fun h=>absurd rfl h⟩ hs hd
 rcases Lfc.PR.cases (Lfc.extendP_ne [] s) with⟨cc,aa,hr⟩ | ⟨x,k,hr⟩
 ·rw[hr] at CE ⊢
  have CE:=Lib.hid CE
  clear hr
  go_enter Tryz.func9,Tryz.ntmps9
  go_wp2_with (go_at_call 19;refine CE.out.mono ?_;rintro e w1⟨rfl,b1⟩)
  refine bodyPost_ret (v:=.tuple #[.slice none 0 0,.slice none 0 0,.int .i64 cc,.int .i64 (aa:Int)]) (by simp[results,Tryz.results9,go_sem]) rfl ⟨rfl,b1⟩
 ·rw[hr] at CE ⊢
  have CE:=Lib.hid CE
  clear hr
  go_enter Tryz.func9,Tryz.ntmps9
  go_wp2_with (go_at_call 19;refine CE.out.mono ?_;rintro e w1⟨⟨xs,A,c,B,d,hx,rfl,HV⟩,b1⟩)
  refine bodyPost_ret (v:=.tuple #[.slice A xs.length c,.slice B x.2.length d,.int .i64 0,.int .i64 (s.length:Int)]) (by simp[results,Tryz.results9,go_sem]) rfl ⟨⟨xs,A,c,B,d,hx,rfl,HV⟩,b1⟩
end Go.Proofs.YthajalgkjonaaaaGreatDoor
namespace Lfc
def wfTs:List Raw→Int
 |[]=>0
 |t :: r=>if t.wf≠0 then t.wf else wfTs r
def wfIts(ops:List Op):List Itm→Int
 |[]=>0
 |x :: r=>if x.formedP=false then 1 else if wfTs x.trees≠0 then wfTs x.trees else if x.kind=3 then(if (added ops x.op).2≠0 then(added ops x.op).2 else wfIts (added ops x.op).1 r) else wfIts ops r
def wfItems(l:List Itm):Int:=if 512<l.length then 7 else wfIts [] l
end Lfc
namespace Go.Proofs.YthajalgkjonaaaaGreatDoor
open Go.RowKit
theorem TreesAt.toP{w:World}{A:Option Addr}{ts:List Lfc.Raw}(h:TreesAt w A ts):TreesAtP (fun _=>True) w A ts:=fun hne=>by
 obtain⟨b,o,hA,hlt,ht⟩:=h hne
 exact⟨b,o,hA,hlt,trivial,TreesO.toP (fun _ _=>trivial) _ _ _ ht⟩
theorem rowp_trees{q:Nat→Prop}{w:World}{base c:Nat}{A:Option Addr}{xs:List Value}{ts:List Lfc.Raw}(h:w.ownsRow base 46 4 (.slice A ts.length c) ts.length xs)(hr:RowP q w ts xs):TreesAt w A ts:=fun hne=>by
 rcases h.2 with⟨_,h0⟩ | ⟨g,cap,cur,hv,hbg,hg,_⟩
 ·exact absurd (List.length_eq_zero_iff.1 h0) hne
 ·have hv':=hv
  injection hv' with e1 _ e3
  subst e1 e3
  exact⟨g,0,rfl,lt_of_block hg,TreesP.toC ts g 0 (hr.lie (own_cells h))⟩
theorem TreesAt.row{w:World}{A:Option Addr}{ts:List Lfc.Raw}(h:TreesAt w A ts):∃ys,RowP (fun b=>b<w.heap.size) w ts ys∧ys.length=ts.length*4∧(∀u∈ys,u.oneCell'=true)∧∀W,Below w.heap.size w W→ts.length≠0→∃a,A=some a∧∀j u,ys[j]?=some u→W.cell? (a.add j)=some u:=by
 by_cases e:ts=[]
 ·subst e
  exact⟨[],by rw[RowP],rfl,by simp,fun W _ h=>absurd rfl h⟩
 ·obtain⟨b,o,hA,hb,hT⟩:=h e
  obtain⟨xs,hr,hc⟩:=(TreesO.toP (q:=fun b=>b<w.heap.size) (fun _ h=>h) _ _ _ hT).row
  refine⟨xs,hr,by have:=hr.len;omega,hr.ones,fun W hW _=>⟨_,hA,cellsAdd fun j u hj=>?_⟩⟩
  exact(hW.cell (p:=⟨b,_,none⟩) hb).trans (hc j u hj)
theorem bnd_info:∃i,Tryz.prog.info? 72=some i∧i.zero=some (.agg #[S [],.int .i64 0,S [],.int .i64 0,.slice none 0 0])∧i.size=5∧i.bytes=72:=by
 obtain⟨i0,hi,hz0,hz1,hz2⟩:=info_parts (show(Tryz.prog.info? 72).map (fun i=>(i.zero,i.size,i.bytes))=some (some (.agg #[S [],.int .i64 0,S [],.int .i64 0,.slice none 0 0]),5,72) by kernel_rfl)
 exact⟨i0,hi,hz0,hz1,hz2⟩
set_option maxRecDepth 100000 in
set_option maxHeartbeats 2000000 in
theorem bclone_nil(A:Option Addr)(c:Nat)(w:World):Calls Tryz.prog 99 #[.slice A 0 c] w fun e w'=>∃A' c',e=.returned (.slice A' 0 c')∧w'.ownsRow w.heap.size 72 5 (.slice A' 0 c') 0 []∧Below w.heap.size w w':=by
 obtain⟨i0,hi,hz0,hz1,hz2⟩:=bnd_info
 rcases A with _ | A
 ·have hnil:∀W:World,(binOp .eql 35 (.slice none 0 c) (.slice none 0 0)).run Tryz.prog W=.ok (.bool true) W:=fun _=>rfl
  go_enter Tryz.func99,Tryz.ntmps99
  go_wp2_with fail
  go_ret
  exact⟨none,0,rfl,own_nil _ _ _ _,Below.refl _ _⟩
 ·have hown0:(w.alloc (.cells #[] 72)).ownsRow w.heap.size 72 5 (.slice (some ⟨w.heap.size,0,none⟩) 0 0) 0 [] :=
   ⟨rfl,.inr ⟨w.heap.size,0,#[],rfl,Nat.le_refl _,heap_alloc_new _ _,Nat.le_refl _,by unfold maxLen;omega,rfl,rfl⟩⟩
  have HOWN:=Lib.hid hown0
  have b1:Below w.heap.size w (w.alloc (.cells #[] 72)):=(Below.refl _ _).alloc (Nat.le_refl _) _
  have hnil:∀W:World,(binOp .eql 35 (.slice (some A) 0 c) (.slice none 0 0)).run Tryz.prog W=.ok (.bool false) W:=fun _=>rfl
  clear hown0
  go_enter Tryz.func99,Tryz.ntmps99
  go_wp2_with (at_builtin;refine wpList_append_own_any _ rfl _ _ 35 rfl w.heap.size 72 i0 (.agg #[S [],.int .i64 0,S [],.int .i64 0,.slice none 0 0]) 5 72 Tryz.underlying35 hi hz0 hz1 hz2 rfl (by decide) _ _ _ rfl HOWN.out (some A) 0 c [] rfl rfl (fun h=>absurd rfl h) (by simp) (by decide) (by decide) (by simp) ?_)
  intro v' w2 hown2 hg2 _
  obtain⟨A2,c2,rfl⟩:=own_form hown2
  have HO2:=Lib.hid hown2
  have b2:Below w.heap.size w w2:=b1.grown hg2 (by simp) (own_block_ge HOWN.out)
  clear hown2 hg2
  go_wp2_with fail
  go_ret
  exact⟨A2,c2,rfl,by simpa using HO2.out,b2⟩
set_option maxRecDepth 100000 in
set_option maxHeartbeats 4000000 in
theorem trees_leaf(x:Lfc.Itm)(s:IS)(w:World)(hv:ItV w x s)(hx:x.Sm)(h0:x.som=[])(h1:x.params=[]):Calls Tryz.prog 47 #[.agg (itCells x s)] w fun e w'=>(∃A c,e=.returned (.slice A x.trees.length c)∧TreesAt w' A x.trees)∧Below w.heap.size w w':=by
 obtain⟨ir,hri,hrz0,hrz1,hrz2⟩:=raw_info
 obtain⟨ib,hbi,hbz0,hbz1,hbz2⟩:=bnd_info
 have hty:=hx.ty
 have hva:=hx.va
 have HT:=Lib.hid hv.ty.1
 have HV:=Lib.hid hv.va.1
 have HX:Hid (x.trees=x.type++x.value):=Lib.hid (by simp[Lfc.Itm.trees,h0,h1])
 rw[HX.out]
 clear hx hv HX
 obtain⟨kind,pos,name,type,value,⟨on,of,op⟩,som,params,blocks,fams,signs,orders,⟨lk,la,lp⟩,⟨rk,ra,rp⟩,rel,count⟩:=x
 simp only at h0 h1 hty hva HT HV ⊢
 subst h0 h1
 simp only[itCells,Lfc.Ord.k,Lfc.Ord.a,Lfc.Ord.ps,List.length_nil] at HT HV ⊢
 obtain⟨w1,hw1⟩:∃w1,w.alloc (.cells #[.int .i64 kind,.int .i64 (pos:Int),S name,.slice s.ty.1 type.length s.ty.2,.slice s.va.1 value.length s.va.2,S on,.int .i64 of,.int .i64 op,.slice s.so.1 0 s.so.2,.slice s.pa.1 0 s.pa.2,.slice s.bl.1 blocks.length s.bl.2,.slice s.fa.1 fams.length s.fa.2,.slice s.si.1 signs.length s.si.2,.slice s.od.1 orders.length s.od.2,.int .i64 lk,.int .i64 la,.slice s.le.1 lp.length s.le.2,.int .i64 rk,.int .i64 ra,.slice s.ri.1 rp.length s.ri.2,.int .i64 rel,.int .i64 count] 42)=w1:=⟨_,rfl⟩
 have b1:Below w.heap.size w w1:=by rw[←hw1];exact(Below.refl _ _).alloc (Nat.le_refl _) _
 have q1:w1.heap[w.heap.size]?=some (.cells #[.int .i64 kind,.int .i64 (pos:Int),S name,.slice s.ty.1 type.length s.ty.2,.slice s.va.1 value.length s.va.2,S on,.int .i64 of,.int .i64 op,.slice s.so.1 0 s.so.2,.slice s.pa.1 0 s.pa.2,.slice s.bl.1 blocks.length s.bl.2,.slice s.fa.1 fams.length s.fa.2,.slice s.si.1 signs.length s.si.2,.slice s.od.1 orders.length s.od.2,.int .i64 lk,.int .i64 la,.slice s.le.1 lp.length s.le.2,.int .i64 rk,.int .i64 ra,.slice s.ri.1 rp.length s.ri.2,.int .i64 rel,.int .i64 count] 42 (0,0)):=by rw[←hw1];exact heap_alloc_new _ _
 have y0:=Lib.cell_of_heap q1 0
 have y1:=Lib.cell_of_heap q1 1
 have y2:=Lib.cell_of_heap q1 2
 have y3:=Lib.cell_of_heap q1 3
 have y4:=Lib.cell_of_heap q1 4
 have y5:=Lib.cell_of_heap q1 5
 have y6:=Lib.cell_of_heap q1 6
 have y7:=Lib.cell_of_heap q1 7
 have y8:=Lib.cell_of_heap q1 8
 have y9:=Lib.cell_of_heap q1 9
 have y10:=Lib.cell_of_heap q1 10
 have y11:=Lib.cell_of_heap q1 11
 have y12:=Lib.cell_of_heap q1 12
 have y13:=Lib.cell_of_heap q1 13
 have y14:=Lib.cell_of_heap q1 14
 have y15:=Lib.cell_of_heap q1 15
 have y16:=Lib.cell_of_heap q1 16
 have y17:=Lib.cell_of_heap q1 17
 have y18:=Lib.cell_of_heap q1 18
 have y19:=Lib.cell_of_heap q1 19
 have y20:=Lib.cell_of_heap q1 20
 have y21:=Lib.cell_of_heap q1 21
 simp at y0 y1 y2 y3 y4 y5 y6 y7 y8 y9 y10 y11 y12 y13 y14 y15 y16 y17 y18 y19 y20 y21
 have hld:=it_load q1 rfl
 clear q1
 obtain⟨ys,hyr,hyl,hyo,hyc⟩:=(HV.out.below b1).row
 have HYR:=Lib.hid hyr
 have HYC:=Lib.hid hyc
 have CT:=Lib.hid (fun W (hb:Below w1.heap.size w1 W)=>sclone_any (fun _=>True) type s.ty.1 s.ty.2 W (by omega) ((HT.out.below (b1.trans (hb.mono b1.size))).toP))
 have CT0:=Lib.hid (CT.out w1.drew (Below.refl _ _).drew)
 have HTL:Hid ((type++value).length=type.length+value.length):=Lib.hid (by simp)
 have HLM:Hid (type.length+value.length≤maxLen∧(type.length+value.length)*56≤140737488355328):=Lib.hid ⟨by unfold maxLen;omega,by omega⟩
 have HYL:=Lib.hid hyl
 rw[HTL.out]
 clear hyr hyc CT hyl
 go_enter Tryz.func47,Tryz.ntmps47
 go_upto_region 1 with fail
 clear hw1
 go_region_law (first
  |(go_simp;go_at_call 98;refine CT0.out.mono ?_;rintro e w2⟨A2,c2,xs,rfl,ho2,hr2,b2'⟩;have b2:=((Below.refl w1.heap.size w1).drew).trans b2';have t4:=(b2.cell (p:=⟨w.heap.size,4,none⟩) (lt_of_cell' y4)).trans y4;have t8:=(b2.cell (p:=⟨w.heap.size,8,none⟩) (lt_of_cell' y8)).trans y8;have t9:=(b2.cell (p:=⟨w.heap.size,9,none⟩) (lt_of_cell' y9)).trans y9;have s2:=b2.size)
  |(refine step_append_own_any _ (by rfl) _ _ 32 (by rfl) w1.heap.size 46 ir (.agg #[.int .i64 0,S [],.int .i64 0,.slice none 0 0]) 4 56 Tryz.underlying32 hri hrz0 hrz1 hrz2 rfl (by decide) _ _ _ (by rfl) ho2.out s.va.1 value.length s.va.2 ys (by rfl) HYL.out (HYC.out _ b2) hyo HLM.out.1 HLM.out.2 s2 ?_;intro v3 w3 hown3 hg3 hat3;obtain⟨A3,c3,rfl⟩:=own_form hown3))
 all_goals
  have b3:Below w1.heap.size w1 w3:=b2.grown hg3 s2 (own_block_ge ho2.out)
  have HR3:Hid (TreesAt w3 A3 (type++value)):=Lib.hid (rowp_trees (by rw[HTL.out];exact hown3) (RowP.append (q:=fun _=>True) (HYR.out.keep (fun b hb hlt=>b3.block b hlt) b3.size (fun _ _ _=>trivial)) (hr2.out.keep (fun b hb _=>hg3.block b (by have:=b2.size;have:=hb.2;omega) (fun e=>by have:=own_block_ge ho2.out b e.symm;have:=hb.2;omega)) hg3.size (fun _ _ h=>trivial))))
  have u8:=(b3.cell (p:=⟨w.heap.size,8,none⟩) (lt_of_cell' y8)).trans y8
  have u9:=(b3.cell (p:=⟨w.heap.size,9,none⟩) (lt_of_cell' y9)).trans y9
  have CB:=Lib.hid (bclone_nil s.so.1 s.so.2 w3.drew)
  have s3:=b3.size
  clear hown3 hg3 hat3 t4 t8 t9 ho2 hr2 b2
  go_upto_region 2 with fail
  go_region_law (first
   |(go_simp;go_at_call 99;refine CB.out.mono ?_;rintro e w4⟨A4,c4,rfl,ho4,b4'⟩;have b4:=((Below.refl w3.heap.size w3).drew).trans b4';have t9:=(b4.cell (p:=⟨w.heap.size,9,none⟩) (lt_of_cell' u9)).trans u9;have s4:=b4.size)
   |(refine step_append_own_any _ (by rfl) _ _ 35 (by rfl) w3.heap.size 72 ib (.agg #[S [],.int .i64 0,S [],.int .i64 0,.slice none 0 0]) 5 72 Tryz.underlying35 hbi hbz0 hbz1 hbz2 rfl (by decide) _ _ _ (by rfl) ho4 s.pa.1 0 s.pa.2 [] (by rfl) rfl (fun h=>absurd rfl h) (by simp) (by decide) (by decide) s4 ?_;intro v5 w5 hown5 hg5 hat5;obtain⟨A5,c5,rfl⟩:=own_form hown5))
  all_goals
   have b5:Below w3.heap.size w3 w5:=b4.grown hg5 s4 (own_block_ge ho4)
   have HR5:=Lib.hid (HR3.out.below b5)
   have HB5:=Lib.hid (b1.trans ((b3.trans (b5.mono s3)).mono b1.size))
   clear hown5 hg5 hat5 t9 ho4 b4
   go_wp2_with fail
   try simp only[Act.put,List.getElem_toArray,List.getElem_cons_zero,List.getElem_cons_succ,List.setIfInBounds_toArray,List.set_cons_zero,List.set_cons_succ]
   go_loopw [3,19] (fun v i wr=>v=.slice A3 (type.length+value.length) c3∧i=.int .i64 0∧wr=w5) (fun _ _ _=>0)
   case atStart=>exact⟨rfl,rfl,rfl⟩
   case round =>
    obtain⟨rfl,rfl,rfl⟩:=hrel
    go_wp2_with fail
    go_ret
    exact⟨⟨A3,c3,rfl,HR5.out⟩,HB5.out⟩
theorem itRow_at:∀(l:List (Lfc.Itm × IS))(k:Nat)(h:k<l.length)(j:Nat),j<22→(itRow l)[k*22+j]?=(itCells l[k].1 l[k].2)[j]?
 |[],k,h,j,_=>absurd h (by simp)
 |y :: r,0,h,j,hj=>by
  have:(itRow (y :: r))=(itCells y.1 y.2).toList++itRow r:=by simp[itRow]
  rw[this,List.getElem?_append_left (by simpa[itCells] using(by omega:0*22+j<22))]
  simp
 |y :: r,k+1,h,j,hj=>by
  have:(itRow (y :: r))=(itCells y.1 y.2).toList++itRow r:=by simp[itRow]
  rw[this,List.getElem?_append_right (by simp[itCells];omega)]
  have h22:(itCells y.1 y.2).toList.length=22:=rfl
  rw[h22,show(k+1)*22+j-22=k*22+j by omega,itRow_at r k (by simpa using h) j hj]
  simp
theorem ItsV.below{w w':World}{A:Option Addr}{xs:List (Lfc.Itm × IS)}(h:ItsV w A xs)(hb:Below w.heap.size w w'):ItsV w' A xs:=fun hne=>by
 obtain⟨b,o,hA,hlt,hc,hi⟩:=h hne
 exact⟨b,o,hA,Nat.lt_of_lt_of_le hlt hb.size,fun j u hj=>(hb.cell (p:=⟨b,_,none⟩) hlt).trans (hc j u hj),fun y hy=>(hi y hy).below hb⟩
theorem wpList_it_new{ops:Array Oper}{rest:List Oper}{o:Oper}{a:Act}{w:World}{Q:Exit→Act→World→Prop}{x y:Operand}{z cs:Array Value}(ho:o.op=.store 42 x y)(hx:a.eval x=.pointer (some ⟨w.heap.size,0,none⟩))(hy:a.eval y=.agg cs)(hw:Region.wanted o (yielded ops a.tmps)=true)
  (hz:z.size=22) (hs:cs.size=22) (h1:cs.all (·.oneCell')=true) (h:wpList Tryz.prog ops Q rest (a.put o.dst undef) (w.alloc (.cells cs 42))):wpList Tryz.prog ops Q (o :: rest) a (w.alloc (.cells z 42)):=by
 refine wpList_step fun K hK=>?_
 rw[if_pos hw]
 have hl:(Instr.storeAt 42 (.pointer (some ⟨w.heap.size,0,none⟩)) (.agg cs)).run Tryz.prog (w.alloc (.cells z 42))=.ok () (w.alloc (.cells cs 42)):=by
  simp only[Instr.storeAt,Instr.sureAddr,Sem.run_bind,Sem.run_pure,Result.andThen]
  rw[run_storeVar_row _ _ 42 42 z cs (heap_alloc_new w _) (by rw[hs];kernel_rfl) (by omega) h1,World.setRow_alloc_new]
 unfold Oper.wp execOp
 simp only[ho,hx,hy,Sem.run_bind,Sem.run_pure,Result.andThen_ok,hl]
 exact hK _ _ h
set_option maxRecDepth 100000 in
set_option maxHeartbeats 8000000 in
theorem wellFormed_of(l:List (Lfc.Itm × IS))(A:Option Addr)(c:Nat)(w:World)(hl:l.length≤1000000)(hA:ItsV w A l)(hsm:∀y∈l,y.1.Sm)
  (hF:∀y∈l,∀W,ItV W y.1 y.2→Calls Tryz.prog 46 #[.agg (itCells y.1 y.2)] W fun e w'=>e=.returned (.bool y.1.formedP)∧Below W.heap.size W w')
  (hT:∀y∈l,∀W,ItV W y.1 y.2→Calls Tryz.prog 47 #[.agg (itCells y.1 y.2)] W fun e w'=>(∃A c,e=.returned (.slice A y.1.trees.length c)∧TreesAt w' A y.1.trees)∧Below W.heap.size W w') :
  Calls Tryz.prog 26 #[.slice A l.length c] w fun e w'=>e=.returned (.int .i64 (Lfc.wfItems (l.map Prod.fst)))∧Below w.heap.size w w':=by
 have HA:=Lib.hid hA
 have HSM:=Lib.hid hsm
 have HF:=Lib.hid hF
 have HT:=Lib.hid hT
 clear hA hsm hF hT
 by_cases h512:512<l.length
 ·have hd:decide ((l.length:Int)>512)=true:=decide_eq_true (by omega)
  have HR:Hid (Lfc.wfItems (l.map Prod.fst)=7):=Lib.hid (by unfold Lfc.wfItems;rw[List.length_map,if_pos h512])
  rw[HR.out]
  clear h512
  go_enter Tryz.func26,Tryz.ntmps26
  go_wp2_with fail
  go_ret
  exact⟨rfl,Below.refl _ _⟩
 obtain⟨R,hR⟩:∃R,Lfc.wfItems (l.map Prod.fst)=R:=⟨_,rfl⟩
 have HR:Hid (Lfc.wfIts [] (l.map Prod.fst)=R):=Lib.hid (by rw[←hR];unfold Lfc.wfItems;rw[List.length_map,if_neg h512])
 rw[hR]
 have hd:decide ((l.length:Int)>512)=false:=decide_eq_false (by omega)
 clear hR
 go_enter Tryz.func26,Tryz.ntmps26
 go_wp2_with fail
 go_loopw [3,15] (fun v i wr=>∃(k:Nat)(ops:List Lfc.Op)(B:Option Addr)(g:Nat),k≤l.length∧i=.int .i64 k∧v=.slice B ops.length g∧ops.length≤k∧Hid (OpsAt wr B ops)∧Hid (Lfc.wfIts ops ((l.drop k).map Prod.fst)=R)∧Below w.heap.size w wr) (fun _ i _=>l.length-(intOf i).toNat)
 case atStart=>exact⟨0,[],none,0,by omega,rfl,rfl,by simp,Lib.hid ⟨fun x hx=>by simp at hx,fun h=>absurd rfl h⟩,Lib.hid (by simpa using HR.out),Below.refl _ _⟩
 case round =>
  clear HR
  obtain⟨k,ops,B,g,hk,rfl,rfl,hol,HO,HM,hbw⟩:=hrel
  by_cases hlt:k<l.length
  ·have hmem:=List.getElem_mem hlt
   obtain⟨b,o,rfl,hb,hc,hi⟩:=HA.out (by intro e;rw[e] at hlt;simp at hlt)
   have hcell:∀j u,(itCells l[k].1 l[k].2)[j]?=some u→wr.cell? ⟨b,o+k*22+j,none⟩=some u:=fun j u hj=>by
    have hj22:j<22:=(Array.getElem?_eq_some_iff.1 hj).1
    have h1:=hc (k*22+j) u (by rw[itRow_at l k hlt j hj22];exact hj)
    rw[←Nat.add_assoc] at h1
    exact(hbw.cell (p:=⟨b,_,none⟩) hb).trans h1
   have hld:=it_loadC hcell rfl
   have hone:=itCells_one l[k].1 l[k].2
   have HIT:=Lib.hid ((hi _ hmem).below hbw)
   have SM:=Lib.hid (HSM.out _ hmem)
   have HF1:=Lib.hid (HF.out _ hmem)
   have HT1:=Lib.hid (HT.out _ hmem)
   have hm:=HM.out
   rw[List.drop_eq_getElem_cons hlt,List.map_cons,Lfc.wfIts] at hm
   clear hc hi hmem hcell
   generalize hy:l[k]=y at *
   clear hy
   obtain⟨x,s⟩:=y
   simp only at hld hone HIT SM HF1 HT1 hm
   generalize hfp:x.formedP=p at *
   generalize htr:x.trees=ts at *
   have htl:ts.length≤1000000:=by
    rw[←htr]
    have h1:=SM.out.ty
    have h2:=SM.out.va
    have h3:=SM.out.so
    have h4:=SM.out.pa
    simp only[Lfc.Itm.trees,List.length_append,List.length_map]
    omega
   have HTS:Hid (∀t∈ts,t.size≤1000000):=Lib.hid (by rw[←htr];exact SM.out.trs)
   obtain⟨kind,pos,name,type,value,⟨on,of,op⟩,som,params,blocks,fams,signs,orders,⟨lk,la,lp⟩,⟨rk,ra,rp⟩,rel,count⟩:=x
   simp only[itCells,Lfc.Ord.k,Lfc.Ord.a,Lfc.Ord.ps] at hld hone hm HF1 HT1
   have hon:=HIT.out.opn
   simp only at hon
   have HON:=Lib.hid hone
   obtain⟨w5,hw5⟩:∃w5,wr.alloc (.cells #[.int .i64 kind,.int .i64 (pos:Int),S name,.slice s.ty.1 type.length s.ty.2,.slice s.va.1 value.length s.va.2,S on,.int .i64 of,.int .i64 op,.slice s.so.1 som.length s.so.2,.slice s.pa.1 params.length s.pa.2,.slice s.bl.1 blocks.length s.bl.2,.slice s.fa.1 fams.length s.fa.2,.slice s.si.1 signs.length s.si.2,.slice s.od.1 orders.length s.od.2,.int .i64 lk,.int .i64 la,.slice s.le.1 lp.length s.le.2,.int .i64 rk,.int .i64 ra,.slice s.ri.1 rp.length s.ri.2,.int .i64 rel,.int .i64 count] 42)=w5:=⟨_,rfl⟩
   have b5:Below wr.heap.size wr w5:=by rw[←hw5];exact(Below.refl _ _).alloc (Nat.le_refl _) _
   have q5:w5.heap[wr.heap.size]?=some (.cells #[.int .i64 kind,.int .i64 (pos:Int),S name,.slice s.ty.1 type.length s.ty.2,.slice s.va.1 value.length s.va.2,S on,.int .i64 of,.int .i64 op,.slice s.so.1 som.length s.so.2,.slice s.pa.1 params.length s.pa.2,.slice s.bl.1 blocks.length s.bl.2,.slice s.fa.1 fams.length s.fa.2,.slice s.si.1 signs.length s.si.2,.slice s.od.1 orders.length s.od.2,.int .i64 lk,.int .i64 la,.slice s.le.1 lp.length s.le.2,.int .i64 rk,.int .i64 ra,.slice s.ri.1 rp.length s.ri.2,.int .i64 rel,.int .i64 count] 42 (0,0)):=by rw[←hw5];exact heap_alloc_new _ _
   have HQ5:=Lib.hid q5
   have CF:=Lib.hid (HF1.out w5 (HIT.out.below b5))
   have HM:=Lib.hid hm
   clear hfp htr HF1 hm q5 hone
   have hi0:(0:Int)≤(k:Int):=Int.natCast_nonneg _
   have hi1:(k:Int)<(l.length:Int):=by omega
   go_upto_region 6 with fail
   go_upto_region 7 with(first | (refine wpList_it (by rfl) (by rfl) (by rfl) hld ?_) | (refine wpList_it_new (by rfl) (by rfl) (by rfl) (by rfl) (by rfl) (by rfl) HON.out ?_;rw[hw5]))
   clear hld hw5
   have hld:=it_load HQ5.out rfl
   cases p
   ·have HR1:Hid (1=R):=Lib.hid (by have:=HM.out;rwa[if_pos rfl] at this)
    as_aux_lemma =>
     go_wp2_with (first | (refine wpList_it (by rfl) (by rfl) (by rfl) hld ?_) | (go_at_call 46;refine CF.out.mono ?_;rintro e w6⟨rfl,b6⟩))
     go_ret
     exact⟨ret_int HR1.out,hbw.trans ((b5.trans (b6.mono b5.size)).mono hbw.size)⟩
   as_aux_lemma =>
    go_upto_region 9 with(first | (refine wpList_it (by rfl) (by rfl) (by rfl) hld ?_) | (go_at_call 46;refine CF.out.mono ?_;rintro e w6⟨rfl,b6⟩))
    clear hld
    have b56:=b5.trans (b6.mono b5.size)
    have HQ6:=Lib.hid ((b6.block _ (lt_of_block HQ5.out)).trans HQ5.out)
    have HM:=Lib.hid (show(if Lfc.wfTs ts≠0 then Lfc.wfTs ts else if kind=3 then(if (Lfc.added ops ⟨on,of,op⟩).2≠0 then(Lfc.added ops ⟨on,of,op⟩).2 else Lfc.wfIts (Lfc.added ops ⟨on,of,op⟩).1 ((l.drop (k+1)).map Prod.fst)) else Lfc.wfIts ops ((l.drop (k+1)).map Prod.fst))=R by have:=HM.out;rwa[if_neg (by simp)] at this)
    have CT:=Lib.hid (HT1.out w6 (HIT.out.below b56))
    have hld:=it_load HQ6.out rfl
    clear HT1 CF HQ5
    go_upto_block 10 with(first | (refine wpList_it (by rfl) (by rfl) (by rfl) hld ?_) | (go_at_call 47;refine CT.out.mono ?_;rintro e w7⟨⟨A7,c7,rfl,ht7⟩,b7⟩))
    have b57:=b56.trans (b7.mono b56.size)
    have HQ7:=Lib.hid ((b7.block _ (lt_of_block HQ6.out)).trans HQ6.out)
    have HT7:=Lib.hid ht7
    clear ht7 CT HQ6 hld
    go_loopw [25] (fun i wr=>∃j:Nat,j≤ts.length∧i=.int .i64 j∧Hid (Lfc.wfTs (ts.drop j)=Lfc.wfTs ts)∧Below w7.heap.size w7 wr) (fun i _=>ts.length-(intOf i).toNat)
    case atStart=>exact⟨0,by omega,rfl,Lib.hid (by simp),Below.refl _ _⟩
    case round =>
     obtain⟨j,hj,rfl,HJ,hbq⟩:=hrel
     by_cases hjt:j<ts.length
     ·obtain⟨b2,o2,tk,tn,tp,us,D,gg,rfl,hb2,htn,e0,e1,e2,e3,_,_,hTV⟩:=(HT7.out.below hbq).at_ hjt
      have hsz:=HTS.out _ (List.getElem_mem hjt)
      have HJ2:=HJ.out
      rw[List.drop_eq_getElem_cons hjt,Lfc.wfTs] at HJ2
      have hj0:(0:Int)≤(j:Int):=Int.natCast_nonneg _
      have hj1:(j:Int)<(ts.length:Int):=by omega
      obtain⟨w8,hw8⟩:∃w8,wr.alloc (.cells #[.int .i64 tk,S tn,.int .i64 tp,.slice D us.length gg] 46)=w8:=⟨_,rfl⟩
      have b8:Below wr.heap.size wr w8:=by rw[←hw8];exact(Below.refl _ _).alloc (Nat.le_refl _) _
      have q8:w8.heap[wr.heap.size]?=some (.cells #[.int .i64 tk,S tn,.int .i64 tp,.slice D us.length gg] 46 (0,0)):=by rw[←hw8];exact heap_alloc_new _ _
      have CW:=Lib.hid (wf_any ts[j] _ w8 (by omega) (hTV.below b8))
      have z0:=Lib.cell_of_heap q8 0
      have z1:=Lib.cell_of_heap q8 1
      have z2:=Lib.cell_of_heap q8 2
      have z3:=Lib.cell_of_heap q8 3
      simp at z0 z1 z2 z3
      generalize htw:ts[j].wf=f at *
      have HJ2:=Lib.hid HJ2
      have B8:=Lib.hid (hbq.trans (b8.mono hbq.size))
      clear hTV htn htw q8 b8
      by_cases hf:f=0
      ·subst hf
       have HN:Hid (Lfc.wfTs (ts.drop (j+1))=Lfc.wfTs ts):=Lib.hid (by have:=HJ2.out;rwa[if_neg (by simp)] at this)
       as_aux_lemma =>
        go_upto_region 12 with fail
        clear hw8 e0 e1 e2 e3
        go_wp2_with (go_at_call 48;refine CW.out.mono ?_;rintro e w9⟨rfl,b9⟩)
        go_roundw
        case rel=>exact⟨j+1,by omega,by go_num,HN,B8.out.trans (b9.mono B8.out.size)⟩
        case measure=>simp[intOf];omega
      ·have hf2:(f != 0)=true:=by simpa using hf
       have HFR:Hid (f=R):=Lib.hid (by
        have h1:=HJ2.out
        rw[if_pos hf] at h1
        have h2:=HM.out
        rw[←h1,if_pos hf] at h2
        exact h2)
       clear hf
       as_aux_lemma =>
        go_upto_region 12 with fail
        clear hw8 e0 e1 e2 e3
        go_wp2_with (go_at_call 48;refine CW.out.mono ?_;rintro e w9⟨rfl,b9⟩)
        go_ret
        exact⟨ret_int HFR.out,hbw.trans ((b57.trans ((B8.out.trans (b9.mono B8.out.size)).mono b57.size)).mono hbw.size)⟩
     ·have HTZ:Hid (Lfc.wfTs ts=0):=Lib.hid (by have:=HJ.out;rw[List.drop_of_length_le (by omega)] at this;rw[←this];rfl)
      have HM2:Hid ((if kind=3 then(if (Lfc.added ops ⟨on,of,op⟩).2≠0 then(Lfc.added ops ⟨on,of,op⟩).2 else Lfc.wfIts (Lfc.added ops ⟨on,of,op⟩).1 ((l.drop (k+1)).map Prod.fst)) else Lfc.wfIts ops ((l.drop (k+1)).map Prod.fst))=R):=Lib.hid (by have:=HM.out;rwa[if_neg (by rw[HTZ.out];simp)] at this)
      have hq7:=(hbq.block _ (lt_of_block HQ7.out)).trans HQ7.out
      have y0:=Lib.cell_of_heap hq7 0
      have y5:=Lib.cell_of_heap hq7 5
      have y6:=Lib.cell_of_heap hq7 6
      have y7:=Lib.cell_of_heap hq7 7
      simp at y0 y5 y6 y7
      have bq:=b57.trans (hbq.mono b57.size)
      clear hq7 HTZ HM HJ
      by_cases h3:kind=3
      ·subst h3
       have HM3:=HM2.out
       rw[if_pos rfl] at HM3
       have CA:=Lib.hid (opAdd_any ops ⟨on,of,op⟩ B g wr (by omega) hon (HO.out.below bq))
       unfold opV AddPost at CA
       have HLA:=Lfc.added_len ops ⟨on,of,op⟩
       generalize Lfc.added ops ⟨on,of,op⟩=z at *
       obtain⟨zo,ze⟩:=z
       simp only at CA HM3 HLA
       have HM3:=Lib.hid HM3
       by_cases hz:ze=0
       ·subst hz
        have HN:=Lib.hid (show Lfc.wfIts zo ((l.drop (k+1)).map Prod.fst)=R by have:=HM3.out;rwa[if_neg (by simp)] at this)
        as_aux_lemma =>
         go_wp2_with (go_at_call 49;refine CA.out.mono ?_;rintro e w9⟨⟨A9,c9,rfl,ho9⟩,b9⟩)
         go_roundw
         case rel=>exact⟨k+1,zo,A9,c9,by omega,by go_num,rfl,by omega,Lib.hid ho9,HN,hbw.trans ((bq.trans (b9.mono bq.size)).mono hbw.size)⟩
         case measure=>simp[intOf];omega
       ·have hz2:(ze != 0)=true:=by simpa using hz
        have HZR:Hid (ze=R):=Lib.hid (by have:=HM3.out;rwa[if_pos hz] at this)
        clear hz
        as_aux_lemma =>
         go_wp2_with (go_at_call 49;refine CA.out.mono ?_;rintro e w9⟨⟨A9,c9,rfl,ho9⟩,b9⟩)
         go_ret
         exact⟨ret_int HZR.out,hbw.trans ((bq.trans (b9.mono bq.size)).mono hbw.size)⟩
      ·have h32:(kind == 3)=false:=by simpa using h3
       have HN:=Lib.hid (show Lfc.wfIts ops ((l.drop (k+1)).map Prod.fst)=R by have:=HM2.out;rwa[if_neg h3] at this)
       clear h3
       as_aux_lemma =>
        go_wp2_with fail
        go_roundw
        case rel=>exact⟨k+1,ops,B,g,by omega,by go_num,rfl,by omega,Lib.hid (HO.out.below bq),HN,hbw.trans (bq.mono hbw.size)⟩
        case measure=>simp[intOf];omega
  ·have HZ:Hid (0=R):=Lib.hid (by have:=HM.out;rw[List.drop_of_length_le (by omega)] at this;rw[←this];rfl)
   go_wp2_with fail
   go_ret
   exact⟨ret_int HZ.out,hbw⟩
end Go.Proofs.YthajalgkjonaaaaGreatDoor
namespace Go.Proofs.YthajalgkjonaaaaGreatDoor
open Go.RowKit
theorem exec_it{a:Act}{o:Oper}{W:World}{x:Operand}{p:Value}{cs:Array Value}(ho:o.op=.load 42 x)(hx:a.eval x=p)(hl:(Instr.loadAt 42 p).run Tryz.prog W=.ok (.agg cs) W):(execOp a.eval o).run Tryz.prog W=.ok (.value (.agg cs)) W:=by
 unfold execOp
 simp only[ho,hx,Sem.run_bind,Sem.run_pure,Result.andThen_ok,hl]
def ItAt(W:World)(b o:Nat)(cs:Array Value):Prop:=∀j v,cs[j]?=some v→W.cell? ⟨b,o+j,none⟩=some v
theorem ItAt.below{w W:World}{b o:Nat}{cs:Array Value}(h:ItAt w b o cs)(hb:Below w.heap.size w W)(hlt:b<w.heap.size):ItAt W b o cs:=fun j v hv=>(hb.cell (p:=⟨b,o+j,none⟩) hlt).trans (h j v hv)
theorem it_at{w:World}{b o k:Nat}{xs:List (Lfc.Itm × IS)}(h:CellsAt w b o (itRow xs))(hk:k<xs.length):ItAt w b (o+k*22) (itCells xs[k].1 xs[k].2):=fun j v hv=>by
 have hj:j<22:=by
  rcases Nat.lt_or_ge j 22 with h1 | h1
  ·exact h1
  ·rw[Array.getElem?_eq_none (by simpa[itCells] using h1)] at hv
   cases hv
 have:=h (k*22+j) v ((itRow_at xs k hk j hj).trans hv)
 rwa[show o+(k*22+j)=o+k*22+j by omega] at this
set_option maxRecDepth 100000 in
set_option maxHeartbeats 4000000 in
theorem sItems_any(xs ys:List (Lfc.Itm × IS))(n:Nat)(h1:xs.length=n)(h2:ys.length=n)(hs:xs.map (fun y=>y.1.strip)=ys.map (fun y=>y.1.strip))(hf:∀y∈xs,y.1.fit 100000)(A A':Option Addr)(c c':Nat)(w:World)(hl:n≤1000000)(hA:ItsV w A xs)(hA':ItsV w A' ys) :
  Calls Tryz.prog 11 #[.slice A n c,.slice A' n c',.bool false] w fun e w'=>e=.returned (.bool true)∧Below w.heap.size w w':=by
 have HA:=Lib.hid hA
 have HA':=Lib.hid hA'
 have H1:=Lib.hid h1
 have H2:=Lib.hid h2
 have HS:=Lib.hid hs
 have HF:=Lib.hid hf
 clear hA hA' h1 h2 hs hf
 have b0:Below w.heap.size w w:=Below.refl _ _
 go_enter Tryz.func11,Tryz.ntmps11
 go_wp2_with fail
 go_loopw [7] (fun i wr=>∃k:Nat,k≤n∧i=.int .i64 k∧Below w.heap.size w wr) (fun i _=>n-(intOf i).toNat)
 case atStart=>exact⟨0,by omega,rfl,b0⟩
 case round =>
  obtain⟨k,hk,rfl,hbw⟩:=hrel
  by_cases hlt:k<n
  ·have hi0:(0:Int)≤(k:Int):=Int.natCast_nonneg _
   have hi1:(k:Int)<(n:Int):=by omega
   have hlt1:k<xs.length:=by have:=H1.out;omega
   have hlt2:k<ys.length:=by have:=H2.out;omega
   have hst:xs[k].1.strip=ys[k].1.strip:=by
    have:=congrArg (fun l=>l[k]?) HS.out
    simpa[hlt1,hlt2] using this
   obtain⟨b,o,rfl,hb,hcs,hit⟩:=HA.out (by intro e;rw[e] at hlt1;simp at hlt1)
   obtain⟨b',o',rfl,hb',hcs',hit'⟩:=HA'.out (by intro e;rw[e] at hlt2;simp at hlt2)
   have bd:Below w.heap.size w wr.drew:=hbw.drew
   have CALL:=Lib.hid (fun W (h:Below w.heap.size w W)=>sItem_any xs[k].1 ys[k].1 xs[k].2 ys[k].2 W hst (HF.out _ (List.getElem_mem _)) ((hit _ (List.getElem_mem _)).below h) ((hit' _ (List.getElem_mem _)).below h))
   have I0:=(it_at hcs hlt1).below bd hb
   have I0':=(it_at hcs' hlt2).below bd hb'
   have hz:(itCells xs[k].1 xs[k].2).size=22:=rfl
   have hz':(itCells ys[k].1 ys[k].2).size=22:=rfl
   generalize itCells xs[k].1 xs[k].2=CX at *
   generalize itCells ys[k].1 ys[k].2=CY at *
   have HD:=Lib.hid bd
   have HI:=Lib.hid (show ∀W,Below wr.drew.heap.size wr.drew W→ItAt W b (o+k*22) CX∧ItAt W b' (o'+k*22) CY from fun W h=>⟨I0.below h (Nat.lt_of_lt_of_le hb bd.size),I0'.below h (Nat.lt_of_lt_of_le hb' bd.size)⟩)
   clear hcs hcs' hit hit' hst hlt1 hlt2 bd I0 I0'
   go_upto_region 6 with fail
   refine wp_region_held_drew (S:=fun W=>ItAt W b (o+k*22) CX∧ItAt W b' (o'+k*22) CY) (by kernel_rfl) (HI.out _ (Below.refl _ _)) (fun hHeld=>?_)
   refine tk 0 ?_
   refine tk 1 ?_
   refine tk 2 ?_
   refine tk 3 (hy:=Or.inl ⟨by rfl,fun W hS=>exec_it (by rfl) (by rfl) (it_loadC hS.1 hz)⟩) ?_
   refine tk 4 ?_
   refine tk 5 ?_
   refine tk 6 ?_
   refine tk 7 (hy:=Or.inl ⟨by rfl,fun W hS=>exec_it (by rfl) (by rfl) (it_loadC hS.2 hz')⟩) ?_
   refine tk 8 ?_
   refine wpAnyH_ready (rs:=[9]) (by kernel_rfl) (by simp) (AllReadyH.cons rfl (fun K hK=>?_) AllReadyH.nil)
   go_simp
   go_at_call 31
   refine(CALL.out _ HD.out).mono ?_
   rintro e w1⟨rfl,hb1⟩
   go_simp
   refine hK.out _ _ (HI.out _ hb1) (fun hHeld=>?_)
   clear hK K
   refine nrm ?_
   refine tk 10 ?_
   refine wpAnyH_done (by kernel_rfl) ?_ _
   go_wp2_with fail
   go_roundw
   case rel=>exact⟨k+1,by omega,by go_num,HD.out.trans (hb1.mono HD.out.size)⟩
   case measure=>simp[intOf];omega
  ·go_wp2_with fail
   go_ret
   exact⟨rfl,hbw⟩
end Go.Proofs.YthajalgkjonaaaaGreatDoor
namespace Go.Proofs.YthajalgkjonaaaaGreatDoor
open Go.RowKit
structure LsF(w0 W:World)(P I base:Nat)(G:Hd)(p:Lfc.PE)(k:Nat)(cs:Array Value)(j:Nat)(e:TypeId)(sz n:Nat)(row:List Value)(A:Option Addr)(c:Nat):Prop where
 f:ItF w0 W P I G p k (cs.setIfInBounds j (.slice A n c))
 own:W.ownsRow base e sz (.slice A n c) n row
 offV:G.offV p (.slice A n c)
theorem LsF.push{w0 W W1 w2 w3:World}{P I base:Nat}{G:Hd}{p:Lfc.PE}{k k1:Nat}{cs:Array Value}{j:Nat}{e:TypeId}{sz n:Nat}{row row':List Value}{A A':Option Addr}{c c':Nat}(h:LsF w0 W P I base G p k cs j e sz n row A c)
  (hj:j<22) (hP:P<base) (hI:I<base) (hb:w0.heap.size≤base) (g1:PW W1 P G p k1) (o1:Oth P W W1) (b2:Below W1.heap.size W1 w2)
  (hown3:w3.ownsRow base e sz (.slice A' (n+1) c') (n+1) row') (hg:w2.grownBy w3 (Value.slice A n c).ownBlock) (hl:(Value.slice A' (n+1) c').ownBlock=(Value.slice A n c).ownBlock∨(Value.slice A' (n+1) c').ownBlock=some w2.heap.size) :
  (w3.cell? ⟨I,j,none⟩=some (.slice A n c)∧w3.frozen? ⟨I,j,none⟩=false)∧LsF w0 (w3.setCell ⟨I,j,none⟩ (.slice A' (n+1) c')) P I base G p k1 cs j e sz (n+1) row' A' c'∧Pushed I base e sz n row' (.slice A n c) (.slice A' (n+1) c') W1 (w3.setCell ⟨I,j,none⟩ (.slice A' (n+1) c')):=by
 have hIl:=h.f.lt
 have hPl:=h.f.pw.lt
 have hv0:∀b,(Value.slice A n c).ownBlock=some b→base≤b∧b<W.heap.size:=fun b hb=>h.own.lt b hb
 have hsz:(cs.setIfInBounds j (.slice A n c)).size=22:=h.f.sz
 have hcs:cs.size=22:=by simpa using hsz
 obtain⟨q1,q2,hp⟩:=pushed (j:=j) h.f.it h.own hI h.f.ne o1 b2 hown3 hg hl
 obtain⟨hpw,hov⟩:=hp.pw g1 h.f.off h.offV h.f.ne.symm (fun e=>by have:=(hv0 P e.symm).1;omega)
 have e1:(cs.setIfInBounds j (.slice A n c)).setIfInBounds j (.slice A' (n+1) c')=cs.setIfInBounds j (.slice A' (n+1) c'):=by
  apply Array.ext_getElem?
  intro i
  simp only[Array.getElem?_setIfInBounds,Array.size_setIfInBounds]
  split <;> simp_all
 rw[e1] at q2
 refine⟨⟨?_,Lib.frozen_of_heap q1 j⟩,⟨⟨hpw,q2,h.f.ne,h.f.off,hp.oth2 h.f.oth o1 (fun b hb=>(hv0 b hb).1) hb,by simpa using hcs⟩,hp.own,hov⟩,hp⟩
 rw[Lib.cell_of_heap q1 j,Array.getElem?_setIfInBounds]
 simp[hcs,hj]
theorem LsF.cell{w0 W:World}{P I base:Nat}{G:Hd}{p:Lfc.PE}{k:Nat}{cs:Array Value}{j:Nat}{e:TypeId}{sz n:Nat}{row:List Value}{A:Option Addr}{c:Nat}(h:LsF w0 W P I base G p k cs j e sz n row A c)(hj:j<22){w':World}(o:Oth P W w'):w'.cell? ⟨I,j,none⟩=some (.slice A n c):=by
 have hcs:cs.size=22:=by simpa using h.f.sz
 rw[Lib.cell_of_heap (o.heap h.f.it h.f.ne) j,Array.getElem?_setIfInBounds]
 simp[hcs,hj]
theorem LsF.start{w0 W:World}{P I base:Nat}{G:Hd}{p:Lfc.PE}{k:Nat}{cs:Array Value}{j:Nat}{e:TypeId}{sz:Nat}(h:ItF w0 W P I G p k cs)(hc:cs.setIfInBounds j (.slice none 0 0)=cs):LsF w0 W P I base G p k cs j e sz 0 [] none 0 :=
 ⟨by rw[hc];exact h,World.ownsRow_nil _ _ _ _,fun J hJ=>(by cases hJ)⟩
theorem LsF.call{w0 W W1:World}{P I base:Nat}{G:Hd}{p:Lfc.PE}{k k1:Nat}{cs:Array Value}{j:Nat}{e:TypeId}{sz n:Nat}{row:List Value}{A:Option Addr}{c:Nat}(h:LsF w0 W P I base G p k cs j e sz n row A c)(hP:P<base)(g1:PW W1 P G p k1)(o1:Oth P W W1):LsF w0 W1 P I base G p k1 cs j e sz n row A c :=
 ⟨h.f.call g1 o1,h.own.kept o1 (Or.inr (fun e=>by have:=(h.own.lt P e).1;omega)),h.offV⟩
theorem strs_own{w:World}{base c:Nat}{A:Option Addr}{q:List (List UInt8)}{n:Nat}(h:w.ownsRow base 9 1 (.slice A n c) n (q.map S))(hn:n=q.length):StrsAt w A q:=fun hne=>by
 rcases h.2 with⟨_,h0⟩ | ⟨g,cap,cur,hv,hbg,hg,_⟩
 ·exact absurd (List.length_eq_zero_iff.1 (by omega)) hne
 ·have hv':=hv
  injection hv' with e1 _ e3
  subst e1 e3
  refine⟨g,0,rfl,lt_of_block hg,fun k hk=>?_⟩
  have:=h.cells (g:=g) rfl k (S q[k]) (by simp[hk])
  rw[show(⟨g,0,none⟩:Addr).add k=⟨g,0+k,none⟩ by unfold Addr.add;split <;> simp_all] at this
  exact this
theorem nums_own{w:World}{base c:Nat}{A:Option Addr}{q:List Int}{n:Nat}(h:w.ownsRow base 3 1 (.slice A n c) n (q.map fun i=>.int .i64 i))(hn:n=q.length):NumsAt w A q:=fun hne=>by
 rcases h.2 with⟨_,h0⟩ | ⟨g,cap,cur,hv,hbg,hg,_⟩
 ·exact absurd (List.length_eq_zero_iff.1 (by omega)) hne
 ·have hv':=hv
  injection hv' with e1 _ e3
  subst e1 e3
  refine⟨g,0,rfl,lt_of_block hg,fun k hk=>?_⟩
  have:=h.cells (g:=g) rfl k (.int .i64 q[k]) (by simp[hk])
  rw[show(⟨g,0,none⟩:Addr).add k=⟨g,0+k,none⟩ by unfold Addr.add;split <;> simp_all] at this
  exact this
theorem own_cap{w:World}{base:Nat}{e:TypeId}{sz n c:Nat}{A:Option Addr}{xs:List Value}(h:w.ownsRow base e sz (.slice A n c) n xs):n≤c:=by
 rcases h.2 with⟨_,h0⟩ | ⟨g,cap,cur,hv,hbg,hg,hnc,_⟩
 ·omega
 ·injection hv with _ _ e3
  omega
theorem own_stays{w:World}{base lo:Nat}{e:TypeId}{sz n c:Nat}{A:Option Addr}{xs:List Value}(h:w.ownsRow base e sz (.slice A n c) n xs)(hlo:lo≤base):Stays (fun b=>lo≤b) w (fun V=>V.ownsRow base e sz (.slice A n c) n xs):=fun w' h1 h2=>by
 refine⟨h.1,?_⟩
 rcases h.2 with e | ⟨g,cap,cur,hv,hbg,hg,r⟩
 ·exact .inl e
 ·exact .inr ⟨g,cap,cur,hv,hbg,(h2 g (by omega) (lt_of_block hg)).trans hg,r⟩
end Go.Proofs.YthajalgkjonaaaaGreatDoor
namespace Go.Proofs.YthajalgkjonaaaaGreatDoor
open Go.RowKit
def cellLen(I j:Nat)(W:World):Nat:=match W.cell? ⟨I,j,none⟩ with
 |some (.slice _ n _)=>n
 |_=>0
theorem cellLen_eq{I j:Nat}{W:World}{A:Option Addr}{n c:Nat}(h:W.cell? ⟨I,j,none⟩=some (.slice A n c)):cellLen I j W=n:=by simp[cellLen,h]
theorem int_infoP:∃i,Tryz.prog.info? 3=some i∧i.zero=some (.int .i64 0)∧i.size=1∧i.bytes=8:=by
 obtain⟨i0,hi,hz0,hz1,hz2⟩:=info_parts (show(Tryz.prog.info? 3).map (fun i=>(i.zero,i.size,i.bytes))=some (some (.int .i64 0),1,8) by kernel_rfl)
 exact⟨i0,hi,hz0,hz1,hz2⟩
set_option maxRecDepth 100000 in
set_option maxHeartbeats 4000000 in
theorem mode_any{P I k:Nat}{G:Hd}{p:Lfc.PE}(a:Nat)(w:World)(h:ItF w w P I G p k (itCells (Lfc.Itm.new a) IS.nil))(hk:k≤p.toks.length)(ok:POk p) :
  Calls Tryz.prog 130 #[.pointer (some ⟨P,0,none⟩),.pointer (some ⟨I,0,none⟩)] w (ItRes P I G p w (p.modeP (Lfc.Itm.new a) k)):=by
 have hlen:=ok.len
 have hP:=h.pw.lt
 have hI:=h.lt
 have OK:=Lib.hid ok
 have F0:=Lib.hid h
 have HPI:=Lib.hid (And.intro hP hI)
 obtain⟨M,hm⟩:∃M,p.modeP (Lfc.Itm.new a) k=M:=⟨_,rfl⟩
 rw[hm]
 have HR:=Lib.hid hm.symm
 have HNEM:=Lib.hid hm
 unfold Lfc.PE.modeP at HR
 clear h ok hm
 obtain⟨iz,hi,hz0,hz1,hz2⟩:=int_infoP
 have HNE:Hid (M≠.out):=Lib.hid (by have:=(Lfc.fair_mode p (Lfc.Itm.new a) k).1;rw[HNEM.out] at this;exact this)
 go_enter Tryz.func130,Tryz.ntmps130
 have FR:=Lfc.fair_name p k
 rcases Lfc.PR.cases FR.1 with⟨cc,aa,hr⟩ | ⟨n,k1,hr⟩
 ·have C:=Lib.hid (name_at w F0.out.pw (by omega) OK.out)
  rw[hr] at C
  have hm:=HR.out
  rw[hr,Lfc.PR.then_errE] at hm
  have HM:=Lib.hid hm
  clear hr FR hm
  go_wp2_with (go_at_call 138;refine C.out.mono ?_;rintro e w1⟨rfl,o1⟩)
  rw[HM.out]
  exact⟨rfl,rfl,(Oth2.refl P I w).trans (F0.out.oth.trans (Oth2.left o1))⟩
 have C:=Lib.hid (name_at w F0.out.pw (by omega) OK.out)
 rw[hr] at C
 have hm:=HR.out
 rw[hr,Lfc.PR.then_okE] at hm
 have HR:=Lib.hid hm
 obtain⟨hk1a,hk1b⟩:=FR.2.2 _ _ hr
 have HE1:=Lib.hid hr
 clear hr FR hm
 go_wp2_with (go_at_call 138;refine C.out.mono ?_;rintro e w1⟨⟨v1,rfl,rfl⟩,h1,o1⟩;have F1a:=Lib.hid (F0.out.call h1 o1);obtain⟨s2,u2,e2,y2,z2,F2⟩:=F1a.out.set 0 (.int .i64 6) (by decide);obtain⟨s3,u3,e3,y3,z3,F3⟩:=F2.out.set 2 (S n) (by decide))
 have HN:=Lib.hid (name_le OK.out HE1.out)
 have hsz:=F3.out.oth.size
 obtain⟨hPx,hIx⟩:=HPI.out
 have HPB:Hid (P<s3.heap.size∧I<s3.heap.size∧w.heap.size≤s3.heap.size):=Lib.hid ⟨by omega,by omega,hsz⟩
 have L0:Hid (LsF w s3 P I s3.heap.size G p k1 _ 12 3 1 0 [] none 0):=Lib.hid (LsF.start F3.out rfl)
 obtain⟨CS,hCS⟩:∃CS,((itCells (Lfc.Itm.new a) IS.nil).setIfInBounds 0 (.int .i64 6)).setIfInBounds 2 (S n)=CS:=⟨_,rfl⟩
 rw[hCS] at L0
 have HCS:=Lib.hid hCS
 clear hCS hsz
 go_loopw [] (fun wr=>∃(f kk:Nat)(l:List Int)(A:Option Addr)(c:Nat),kk≤p.toks.length∧l.length≤kk∧Hid (M=(Lfc.signsF p f kk l).then fun l k2=>.ok ({ Lfc.Itm.new a with kind:=6,name:=n,signs:=l },p.ops) k2)∧Hid (LsF w wr P I s3.heap.size G p kk CS 12 3 1 l.length (l.map fun i=>.int .i64 i) A c)∧s3.heap.size≤wr.heap.size) (fun wr=>30000-cellLen I 12 wr)
 case atStart=>exact⟨p.toks.length+1,k1,[],none,0,by omega,by simp,HR,L0,Nat.le_refl _⟩
 case round =>
  clear L0 HR F3
  obtain⟨f,kk,l,A,c,hkk,hll,HM,HL,hbr⟩:=hrel
  obtain _ | f:=f
  ·exact absurd HM.out HNE.out
  have hm:=HM.out
  rw[Lfc.signsF] at hm
  have CT:=Lib.hid (take_any 2 [46] wr HL.out.f.pw hkk OK.out)
  cases hz:p.is kk 2 [46]
  ·rw[if_neg (by rw[hz];decide)] at hm
   simp only[hz,if_true,Bool.false_eq_true,if_false] at CT
   have HM:=Lib.hid hm
   clear hm
   as_aux_lemma =>
    go_upto_region 2 with(go_at_call 139;refine CT.out.mono ?_;rintro e w7⟨rfl,h7,o7⟩)
    have L7:=Lib.hid (HL.out.call HPB.out.1 h7 o7)
    have hm7:=HPB.out.1
    obtain⟨w8,hw8⟩:∃w8,w7.drew.alloc (.cells #[S [43],S [45],S [42]] 9)=w8:=⟨_,rfl⟩
    have b8:Below w7.heap.size w7 w8:=by rw[←hw8];exact((Below.refl _ _).drew).alloc (by simp) _
    have q8:w8.heap[w7.heap.size]?=some (.cells #[S [43],S [45],S [42]] 9 (0,0)):=by rw[←hw8];exact heap_alloc_new w7.drew _
    have o8:Oth P w7 w8:=Oth.of_below b8
    have CWD:=word_any Lfc.signs w7.heap.size 0 3 w8 (h7.below b8) hkk OK.out (by decide) (lt_of_block q8) (fun jj hj=>by rw[Nat.zero_add,Lib.cell_of_heap q8 jj];match jj,hj with | 0,_=>rfl | 1,_=>rfl | 2,_=>rfl)
    have FR:=Lfc.fair_word p kk Lfc.signs
    have y7:w7.cell? ⟨I,12,none⟩=some (.slice A l.length c):=L7.out.cell (by decide) (Oth.refl _ _)
    have y7d:w7.drew.cell? ⟨I,12,none⟩=some (.slice A l.length c):=y7
    have y8:w8.cell? ⟨I,12,none⟩=some (.slice A l.length c):=L7.out.cell (by decide) o8
    rcases Lfc.PR.cases FR.1 with⟨cc,aa,hr⟩ | ⟨i,k9,hr⟩
    ·rw[hr] at CWD
     have CE:=Lib.hid CWD
     have HF:Hid (M=.err cc aa):=Lib.hid (by rw[HM.out,hr];rfl)
     have O8:=Lib.hid (L7.out.f.oth.trans (Oth2.left o8))
     clear CWD hr FR q8 b8 o8 h7
     as_aux_lemma =>
      refine wp_region_held_drew (S:=fun W=>W.cell? ⟨I,12,none⟩=some (.slice A l.length c)) (by kernel_rfl) y7d (fun hHeld=>?_)
      refine tk 0 ?_
      refine tk 1 ?_
      refine tk 2 ?_
      refine tk 3 ?_
      refine tk 4 ?_
      refine tk 5 ?_
      refine wpAnyH_ready (rs:=[6]) (by kernel_rfl) (by simp) (AllReadyH.cons rfl (fun K hK=>?_) AllReadyH.nil)
      go_simp
      refine hK.out _ _ ?_ (fun hHeld=>?_)
      ·exact y8
      clear hK K
      refine nrm ?_
      refine wpAnyH_ready (rs:=[7]) (by kernel_rfl) (by simp) (AllReadyH.cons rfl (fun K hK=>?_) AllReadyH.nil)
      go_simp
      go_at_call 174
      refine CE.out.mono ?_
      rintro e w9⟨rfl,o9⟩
      go_simp
      go_wp2_with fail
      rw[HF.out]
      exact⟨rfl,rfl,O8.out.trans (Oth2.left o9)⟩
    ·obtain⟨hi0,hi1,_,_⟩:=Lfc.PE.word_ok hr
     rw[hr] at CWD
     have CE:=Lib.hid CWD
     have hb9:=FR.2.2 _ _ hr
     have HM9:Hid (M=(Lfc.signsF p f k9 (l++[1+i])).then fun l k2=>.ok ({ Lfc.Itm.new a with kind:=6,name:=n,signs:=l },p.ops) k2):=Lib.hid (by rw[HM.out,hr];rfl)
     have HLM:Hid (l.length+1≤maxLen∧(l.length+1)*8≤140737488355328):=Lib.hid ⟨by unfold maxLen;omega,by omega⟩
     have hw9:IntKind.i64.wrap (1+i)=1+i:=IntWalk.i64_in _ (by have:(Lfc.signs.length:Int)=3:=rfl;omega)
     have O8:=Lib.hid o8
     have hs8:s3.heap.size≤w8.heap.size:=(by have:=o7.size;have:=o8.size;omega)
     have OW8:=Lib.hid (L7.out.call HPB.out.1 (h7.below b8) o8)
     have hs78:=HPB.out
     clear CWD hr FR q8 b8 o8 h7
     as_aux_lemma =>
      go_region_law (first
       |(go_simp;go_at_call 174;refine CE.out.mono ?_;rintro e w9⟨⟨v9,rfl,rfl⟩,h9,o9⟩;have L9:=OW8.out.call HPB.out.1 h9 o9;have hown9:=L9.own;have y9:w9.cell? ⟨I,12,none⟩=some (.slice A l.length c):=L9.cell (by decide) (Oth.refl _ _);have y9a:∀o,(w9.alloc o).cell? ⟨I,12,none⟩=some (.slice A l.length c):=(fun o=>L9.cell (by decide) (Oth.of_below ((Below.refl _ _).alloc (Nat.le_refl _) o)));have hs9:s3.heap.size≤w9.heap.size:=(by have:=o9.size;omega))
       |(refine step_append_own_at _ (by rfl) _ _ 22 (by rfl) s3.heap.size 3 iz (.int .i64 0) 1 8 Tryz.underlying22 hi hz0 hz1 hz2 rfl (by decide) _ _ _ (by rfl) (hown9.alloc _) ⟨w9.heap.size,0,none⟩ 1 1 [.int .i64 (1+i)] (by rfl) (by rfl) (fun jj u h=>cells_new w9 _ rfl [.int .i64 (1+i)] _ jj u h) (by intro u hu;simp at hu;subst hu;rfl) HLM.out.1 HLM.out.2 (alloc_le hs9) ?_;intro v' w10 hown10 hg10 hloc10;obtain⟨A10,c10,rfl⟩:=own_form hown10;obtain⟨⟨y10,f10⟩,L10,U10⟩:=L9.push (by decide) HPB.out.1 HPB.out.2.1 HPB.out.2.2 L9.f.pw (Oth.refl _ _) ((Below.refl _ _).alloc (Nat.le_refl _) _) hown10 hg10 (by simpa using hloc10)))
      all_goals
       have HNX:=Lib.hid L10
       have U10s:=U10.size
       clear hown9 hown10 hg10 hloc10 L10 U10 L9
       go_wp2_with fail
       go_roundw
       case rel=>exact⟨f,k9,l++[1+i],A10,c10,hb9.2,by have:=hb9.1;simp;omega,HM9,by simpa using HNX,Nat.le_trans hs9 (Nat.le_trans (by simp) U10s)⟩
       case measure=>rw[cellLen_eq (HNX.out.cell (by decide) (Oth.refl _ _)),cellLen_eq (HL.out.cell (by decide) (Oth.refl _ _))];omega
  ·rw[if_pos hz] at hm
   simp only[hz,if_true,Bool.false_eq_true,if_false] at CT
   have HM:=Lib.hid hm
   clear hm
   as_aux_lemma =>
    go_wp2_with (go_at_call 139;refine CT.out.mono ?_;rintro e w7⟨rfl,h7,o7⟩)
    go_end0
    rw[HM.out]
    have L7:=HL.out.call HPB.out.1 h7 o7
    refine L7.f.ret { Lfc.Itm.new a with kind:=6,name:=n,signs:=l } { IS.nil with si:=(A,c) } ?_ ((own_stays L7.own HPB.out.2.2).imp fun W h=>{ ItV.nil W a with name:=HN.out,si:=⟨nums_own h rfl,own_cap h⟩ })
    rw[←HCS.out]
    rfl
end Go.Proofs.YthajalgkjonaaaaGreatDoor
