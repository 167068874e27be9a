/- Parts of the proof that no input makes the law false: PaApp,PaFm1,PaRd1. -/
import Derived.Test.YthajalgkjonaaaaGreatDoorQxAH
import Derived.Test.YthajalgkjonaaaaGreatDoorQxAO
import Derived.Test.YthajalgkjonaaaaGreatDoorQxAR
import Derived.Test.YthajalgkjonaaaaGreatDoorQxAS
set_option linter.unusedVariables false
set_option linter.unusedSimpArgs false
namespace Go.Proofs.YthajalgkjonaaaaGreatDoor
open Go.RowKit
section
variable {P:Program} (w:World)
theorem run_append_own_nilsrc(base:Nat)(t ty e:TypeId)(i:TypeInfo)(ht:P.underlying t=some (.slice e))(hi:P.info? e=some i)(v:Value)(n:Nat)(xs:List Value)(hown:w.ownsRow base e i.size v n xs)(c:Nat) :
  (Builtin.append_ #[t,t] ty #[v,.slice none 0 c]).run P w=.ok v w:=by
 rcases hown.2 with⟨rfl,rfl⟩ | ⟨g,cap,cur,rfl,hbg,hg,hnc,hcm,hcs,htake⟩
 ·simp[Builtin.append_,run_underlying ht,sizeOf,typeInfo,hi,Builtin.lenOf,Builtin.firstCells,loadCells,loadCellsFrom]
 ·have hst:=run_storeCells_at P g (n*i.size) e [] 0 cur w hg (by rw[hcs];simp;exact Nat.mul_le_mul_right _ hnc) (by simp)
  have hset:w.setRow g cur=w:=by
   unfold World.setRow
   congr 1
   apply Array.ext_getElem?
   intro j
   simp[Array.getElem?_modify]
   intro hj
   subst hj
   rw[hg]
   rfl
  simp at hst
  simp[Builtin.append_,run_underlying ht,sizeOf,typeInfo,hi,Builtin.lenOf,Builtin.firstCells,hnc,loadCells,loadCellsFrom,Addr.add_lit,hst,hset]
theorem run_append_own_any(base:Nat)(t ty e:TypeId)(i:TypeInfo)(z:Value)(size bytes:Nat)(ht:P.underlying t=some (.slice e))(hi:P.info? e=some i)(hz:i.zero=some z)
  (hsize:i.size=size) (hby:i.bytes=bytes) (hzs:z.cells.size=size) (hsz:0<size)
  (v:Value) (n:Nat) (xs:List Value) (hown:w.ownsRow base e size v n xs)
  (A:Option Addr) (m c:Nat) (news:List Value) (hl:news.length=m*size) (hnews:m≠0→∃a,A=some a∧∀j u,news[j]?=some u→w.cell? (a.add j)=some u) (h1:∀u∈news,u.oneCell'=true)
  (h63:n+m≤maxLen) (hbytes:(n+m)*bytes≤140737488355328) (hbase:base≤w.heap.size) :
  ∃v' w',(Builtin.append_ #[t,t] ty #[v,.slice A m c]).run P w=.ok v' w'∧w'.ownsRow base e size v' (n+m) (xs++news)∧w.grownBy w' v.ownBlock∧(v'.ownBlock=v.ownBlock∨v'.ownBlock=some w.heap.size):=by
 rcases A with _ | a
 ·have hm:m=0:=by
   by_cases e:m=0
   ·exact e
   ·obtain⟨a,h,_⟩:=hnews e;cases h
  subst hm
  have hn:news=[]:=List.eq_nil_of_length_eq_zero (by simpa using hl)
  subst hn
  subst hsize
  exact⟨v,w,run_append_own_nilsrc w base t ty e i ht hi v n xs hown c,by simpa using hown,⟨rfl,rfl,rfl,Nat.le_refl _,fun _ _ _=>rfl⟩,.inl rfl⟩
 ·obtain⟨v',w',hr,h2,h3,_,h5⟩:=run_append_own_at (P:=P) w base t ty e i z size bytes ht hi hz hsize hby hzs hsz v n xs hown a m c news hl (fun j u hj=>by
   by_cases hm:m=0
   ·subst hm
    have hn:news=[]:=List.eq_nil_of_length_eq_zero (by simpa using hl)
    subst hn
    simp at hj
   ·obtain⟨a',ha,h⟩:=hnews hm
    cases ha
    exact h j u hj) h1 h63 hbytes hbase
  exact⟨v',w',hr,h2,h3,h5⟩
theorem step_append_own_any{ops:Array Oper}{o:Oper}{a:Act}{K:Act→World→Prop}{Q:Exit→Act→World→Prop}{E:Prop}(hgd:o.guard=none)(s x:Operand)(t:TypeId)
  (ho:o.op=.call { callee:=.builtin .append,args:=#[s,x],argTypes:=#[t,t] })
  (base:Nat) (e:TypeId) (i:TypeInfo) (z:Value) (size bytes:Nat) (ht:P.underlying t=some (.slice e)) (hi:P.info? e=some i) (hz:i.zero=some z)
  (hsize:i.size=size) (hby:i.bytes=bytes) (hzs:z.cells.size=size) (hsz:0<size)
  (v:Value) (n:Nat) (xs:List Value) (hs:a.eval s=v) (hown:w.ownsRow base e size v n xs)
  (A:Option Addr) (m c:Nat) (news:List Value) (hx:a.eval x=.slice A m c) (hl:news.length=m*size) (hnews:m≠0→∃a,A=some a∧∀j u,news[j]?=some u→w.cell? (a.add j)=some u) (h1:∀u∈news,u.oneCell'=true)
  (h63:n+m≤maxLen) (hbytes:(n+m)*bytes≤140737488355328) (hbase:base≤w.heap.size)
  (h:∀v' w',w'.ownsRow base e size v' (n+m) (xs++news)→w.grownBy w' v.ownBlock→(v'.ownBlock=v.ownBlock∨v'.ownBlock=some w.heap.size)→K (a.put o.dst v') w') :
  if Region.wanted o (yielded ops a.tmps)=true then Oper.wp P o a w K Q else E:=by
 have hw:Region.wanted o (yielded ops a.tmps)=true:=by simp[Region.wanted,hgd]
 rw[if_pos hw]
 obtain⟨v',w',hr,h2,h3,h5⟩:=run_append_own_any (P:=P) w base t o.type e i z size bytes ht hi hz hsize hby hzs hsz v n xs hown A m c news hl hnews h1 h63 hbytes hbase
 unfold Oper.wp execOp
 simp only[ho,resolve,invoke,builtin,Sem.run_bind,Sem.run_pure,Result.andThen_ok,List.map_toArray,List.map_cons,List.map_nil,hs,hx,hr]
 exact h v' w' h2 h3 h5
theorem wpList_append_own_any{ops:Array Oper}{rest:List Oper}{o:Oper}{a:Act}{Q:Exit→Act→World→Prop}(hgd:o.guard=none)(s x:Operand)(t:TypeId)
  (ho:o.op=.call { callee:=.builtin .append,args:=#[s,x],argTypes:=#[t,t] })
  (base:Nat) (e:TypeId) (i:TypeInfo) (z:Value) (size bytes:Nat) (ht:P.underlying t=some (.slice e)) (hi:P.info? e=some i) (hz:i.zero=some z)
  (hsize:i.size=size) (hby:i.bytes=bytes) (hzs:z.cells.size=size) (hsz:0<size)
  (v:Value) (n:Nat) (xs:List Value) (hs:a.eval s=v) (hown:w.ownsRow base e size v n xs)
  (A:Option Addr) (m c:Nat) (news:List Value) (hx:a.eval x=.slice A m c) (hl:news.length=m*size) (hnews:m≠0→∃a,A=some a∧∀j u,news[j]?=some u→w.cell? (a.add j)=some u) (h1:∀u∈news,u.oneCell'=true)
  (h63:n+m≤maxLen) (hbytes:(n+m)*bytes≤140737488355328) (hbase:base≤w.heap.size)
  (h:∀v' w',w'.ownsRow base e size v' (n+m) (xs++news)→w.grownBy w' v.ownBlock→(v'.ownBlock=v.ownBlock∨v'.ownBlock=some w.heap.size)→wpList P ops Q rest (a.put o.dst v') w') :
  wpList P ops Q (o :: rest) a w:=by
 refine wpList_plain hgd fun K hK=>?_
 obtain⟨v',w',hr,h2,h3,h5⟩:=run_append_own_any (P:=P) w base t o.type e i z size bytes ht hi hz hsize hby hzs hsz v n xs hown A m c news hl hnews h1 h63 hbytes hbase
 unfold Oper.wp execOp
 simp only[ho,resolve,invoke,builtin,Sem.run_bind,Sem.run_pure,Result.andThen_ok,List.map_toArray,List.map_cons,List.map_nil,hs,hx,hr]
 exact hK _ _ (h v' w' h2 h3 h5)
end
end Go.Proofs.YthajalgkjonaaaaGreatDoor
namespace Lfc
def Itm.formedP(x:Itm):Bool :=
 if x.kind=1 then isName x.name && decide (x.type.length=1) && ({ x with name:=[],type:=[] }:Itm).blank
 else if x.kind=2 then isName x.name && decide (x.type.length≤1) && decide (x.value.length=1) && ({ x with name:=[],type:=[],value:=[] }:Itm).blank
 else if x.kind=3 then({ x with op:=⟨[],0,0⟩ }:Itm).blank
 else if x.kind=4 then isName x.name && decide (0<x.params.length) && bndsF x.som && bndsF x.params && ({ x with name:=[],som:=[],params:=[] }:Itm).blank
 else if x.kind=5 then namesF' x.blocks && decide (0<x.fams.length) && namesF' x.fams && ({ x with blocks:=[],fams:=[] }:Itm).blank
 else if x.kind=6 then isName x.name && !x.signs.any signBad && ({ x with name:=[],signs:=[] }:Itm).blank
 else if x.kind=7∨x.kind=8∨x.kind=9 then isName x.name && ({ x with name:=[] }:Itm).blank
 else if x.kind=10∨x.kind=11 then fordsF x.orders && ({ x with orders:=[] }:Itm).blank
 else if x.kind=12 then isName x.name && x.left.ofm 0 && x.right.ofm 0 && decide (1≤x.rel) && decide (x.rel≤3) && ({ x with name:=[],left:=Ord.nil,right:=Ord.nil,rel:=0 }:Itm).blank
 else if x.kind=13 then decide (x.type.length=1) && decide (0≤x.count) && decide (x.count≤1000) && ({ x with type:=[],count:=0 }:Itm).blank
 else false
def Itm.trees(x:Itm):List Raw:=x.type++x.value++(x.som++x.params).map Prod.snd
structure Itm.Sm(x:Itm):Prop where
 ty:x.type.length≤100000
 va:x.value.length≤100000
 so:x.som.length≤100000
 pa:x.params.length≤100000
 bl:x.blocks.length≤100000
 fa:x.fams.length≤100000
 si:x.signs.length≤100000
 od:x.orders.length≤100000
 bln:∀n∈x.blocks,n.length≤1000000
 fan:∀n∈x.fams,n.length≤1000000
 ors:∀y∈x.orders,y.2.size≤100000
 les:x.left.size≤100000
 ris:x.right.size≤100000
 trs:∀t∈x.trees,t.size≤1000000
theorem Itm.Sm.lens{x:Itm}(h:x.Sm):x.lens≤1000000:=by
 have:=h.ty;have:=h.va;have:=h.so;have:=h.pa;have:=h.bl;have:=h.fa;have:=h.si;have:=h.od
 unfold Itm.lens;omega
end Lfc
namespace Go.Proofs.YthajalgkjonaaaaGreatDoor
open Go.RowKit
theorem enters_clr1:∀args w,(callFunc 82 args).run Tryz.prog w=.ok (.enter 82 args) w:=enters_of Tryz.func82 (by kernel_rfl) rfl
theorem enters_clr3:∀args w,(callFunc 84 args).run Tryz.prog w=.ok (.enter 84 args) w:=enters_of Tryz.func84 (by kernel_rfl) rfl
set_option maxRecDepth 100000 in
set_option maxHeartbeats 4000000 in
theorem formed_const(x:Lfc.Itm)(s:IS)(w:World)(hk:x.kind=1)(hx:x.Sm)(hv:ItV w x s):Calls Tryz.prog 46 #[.agg (itCells x s)] w fun e w'=>e=.returned (.bool x.formedP)∧Below w.heap.size w w':=by
 have hn:=hv.name
 have hlen:=hx.lens
 have HO:=Lib.hid (fun W=>only_any 82 enters_clr1 x { x with name:=[],type:=[] } s ({ s with ty:=(none,0) }) W (by have:=hx.lens;simp only[Lfc.Itm.lens] at this ⊢;simp;omega) (fun W K hK=>clr1 x s K W hK))
 have CN:=Lib.hid (fun W=>isName_any x.name W (by omega))
 have HF:Hid (x.formedP=(Lfc.isName x.name && decide (x.type.length=1) && ({ x with name:=[],type:=[] }:Lfc.Itm).blank)):=Lib.hid (by unfold Lfc.Itm.formedP;simp[hk])
 rw[HF.out]
 clear HF hx hv hlen
 generalize Lfc.Itm.blank _=p9 at *
 obtain⟨kind,pos,name,type,value,⟨on,of,op⟩,som,params,blocks,fams,signs,orders,⟨lk,la,lp⟩,⟨rk,ra,rp⟩,rel,count⟩:=x
 simp only at hk hn CN
 subst hk
 simp only[itCells,Lfc.Ord.k,Lfc.Ord.a,Lfc.Ord.ps] at HO ⊢
 obtain⟨w1,hw1⟩:∃w1,w.alloc (.cells #[.int .i64 1,.int .i64 (pos:Int),S name,.slice s.ty.1 type.length s.ty.2,.slice s.va.1 value.length s.va.2,S on,.int .i64 of,.int .i64 op,.slice s.so.1 som.length s.so.2,.slice s.pa.1 params.length s.pa.2,.slice s.bl.1 blocks.length s.bl.2,.slice s.fa.1 fams.length s.fa.2,.slice s.si.1 signs.length s.si.2,.slice s.od.1 orders.length s.od.2,.int .i64 lk,.int .i64 la,.slice s.le.1 lp.length s.le.2,.int .i64 rk,.int .i64 ra,.slice s.ri.1 rp.length s.ri.2,.int .i64 rel,.int .i64 count] 42)=w1:=⟨_,rfl⟩
 have b1:Below w.heap.size w w1:=by rw[←hw1];exact(Below.refl _ _).alloc (Nat.le_refl _) _
 have q1:w1.heap[w.heap.size]?=some (.cells #[.int .i64 1,.int .i64 (pos:Int),S name,.slice s.ty.1 type.length s.ty.2,.slice s.va.1 value.length s.va.2,S on,.int .i64 of,.int .i64 op,.slice s.so.1 som.length s.so.2,.slice s.pa.1 params.length s.pa.2,.slice s.bl.1 blocks.length s.bl.2,.slice s.fa.1 fams.length s.fa.2,.slice s.si.1 signs.length s.si.2,.slice s.od.1 orders.length s.od.2,.int .i64 lk,.int .i64 la,.slice s.le.1 lp.length s.le.2,.int .i64 rk,.int .i64 ra,.slice s.ri.1 rp.length s.ri.2,.int .i64 rel,.int .i64 count] 42 (0,0)):=by rw[←hw1];exact heap_alloc_new _ _
 have y0:=Lib.cell_of_heap q1 0
 have y2:=Lib.cell_of_heap q1 2
 have y3:=Lib.cell_of_heap q1 3
 simp at y0 y2 y3
 have hld:=it_load q1 rfl
 clear q1
 have e2:((type.length:Int) == 1)=decide (type.length=1):=by by_cases h:type.length=1 <;> simp[h];omega
 generalize Lfc.isName name=p1 at *
 generalize decide (type.length=1)=p2 at *
 cases p1
 ·go_enter Tryz.func46,Tryz.ntmps46
  go_upto_region 1 with fail
  clear hw1
  go_wp2_with (go_at_call 80;refine(CN.out _).mono ?_;rintro e wn⟨rfl,rfl⟩)
  go_ret
  exact⟨rfl,b1⟩
 cases p2
 ·go_enter Tryz.func46,Tryz.ntmps46
  go_upto_region 1 with fail
  clear hw1
  go_wp2_with (go_at_call 80;refine(CN.out _).mono ?_;rintro e wn⟨rfl,rfl⟩)
  go_ret
  exact⟨rfl,b1⟩
 go_enter Tryz.func46,Tryz.ntmps46
 go_upto_region 1 with fail
 clear hw1
 go_wp2_with (first | (refine wpList_it (by rfl) (by rfl) (by rfl) hld ?_) | (go_at_call 80;refine(CN.out _).mono ?_;rintro e wn⟨rfl,rfl⟩) | (go_at_call 81;refine(HO.out _).mono ?_;rintro e wo⟨rfl,bo⟩;have br:=b1.trans (bo.mono b1.size)))
 go_ret
 exact⟨by simp,br⟩
set_option maxRecDepth 100000 in
set_option maxHeartbeats 4000000 in
theorem formed_op(x:Lfc.Itm)(s:IS)(w:World)(hk:x.kind=3)(hx:x.Sm)(hv:ItV w x s):Calls Tryz.prog 46 #[.agg (itCells x s)] w fun e w'=>e=.returned (.bool x.formedP)∧Below w.heap.size w w':=by
 have hn:=hv.name
 have hlen:=hx.lens
 have HO:=Lib.hid (fun W=>only_any 84 enters_clr3 x { x with op:=⟨[],0,0⟩ } s (s) W (by have:=hx.lens;simp only[Lfc.Itm.lens] at this ⊢;simp;omega) (fun W K hK=>clr3 x s K W hK))
 have CN:=Lib.hid (fun W=>isName_any x.name W (by omega))
 have HF:Hid (x.formedP=({ x with op:=⟨[],0,0⟩ }:Lfc.Itm).blank):=Lib.hid (by unfold Lfc.Itm.formedP;simp[hk])
 rw[HF.out]
 clear HF hx hv hlen
 generalize Lfc.Itm.blank _=p9 at *
 obtain⟨kind,pos,name,type,value,⟨on,of,op⟩,som,params,blocks,fams,signs,orders,⟨lk,la,lp⟩,⟨rk,ra,rp⟩,rel,count⟩:=x
 simp only at hk hn CN
 subst hk
 simp only[itCells,Lfc.Ord.k,Lfc.Ord.a,Lfc.Ord.ps] at HO ⊢
 obtain⟨w1,hw1⟩:∃w1,w.alloc (.cells #[.int .i64 3,.int .i64 (pos:Int),S name,.slice s.ty.1 type.length s.ty.2,.slice s.va.1 value.length s.va.2,S on,.int .i64 of,.int .i64 op,.slice s.so.1 som.length s.so.2,.slice s.pa.1 params.length s.pa.2,.slice s.bl.1 blocks.length s.bl.2,.slice s.fa.1 fams.length s.fa.2,.slice s.si.1 signs.length s.si.2,.slice s.od.1 orders.length s.od.2,.int .i64 lk,.int .i64 la,.slice s.le.1 lp.length s.le.2,.int .i64 rk,.int .i64 ra,.slice s.ri.1 rp.length s.ri.2,.int .i64 rel,.int .i64 count] 42)=w1:=⟨_,rfl⟩
 have b1:Below w.heap.size w w1:=by rw[←hw1];exact(Below.refl _ _).alloc (Nat.le_refl _) _
 have q1:w1.heap[w.heap.size]?=some (.cells #[.int .i64 3,.int .i64 (pos:Int),S name,.slice s.ty.1 type.length s.ty.2,.slice s.va.1 value.length s.va.2,S on,.int .i64 of,.int .i64 op,.slice s.so.1 som.length s.so.2,.slice s.pa.1 params.length s.pa.2,.slice s.bl.1 blocks.length s.bl.2,.slice s.fa.1 fams.length s.fa.2,.slice s.si.1 signs.length s.si.2,.slice s.od.1 orders.length s.od.2,.int .i64 lk,.int .i64 la,.slice s.le.1 lp.length s.le.2,.int .i64 rk,.int .i64 ra,.slice s.ri.1 rp.length s.ri.2,.int .i64 rel,.int .i64 count] 42 (0,0)):=by rw[←hw1];exact heap_alloc_new _ _
 have y0:=Lib.cell_of_heap q1 0
 have y2:=Lib.cell_of_heap q1 2
 have y3:=Lib.cell_of_heap q1 3
 simp at y0 y2 y3
 have hld:=it_load q1 rfl
 clear q1
 generalize Lfc.isName name=p1 at *
 go_enter Tryz.func46,Tryz.ntmps46
 go_upto_region 1 with fail
 clear hw1
 go_wp2_with (first | (refine wpList_it (by rfl) (by rfl) (by rfl) hld ?_) | (go_at_call 80;refine(CN.out _).mono ?_;rintro e wn⟨rfl,rfl⟩) | (go_at_call 81;refine(HO.out _).mono ?_;rintro e wo⟨rfl,bo⟩;have br:=b1.trans (bo.mono b1.size)))
 go_ret
 exact⟨rfl,br⟩
end Go.Proofs.YthajalgkjonaaaaGreatDoor
namespace Go.Proofs.YthajalgkjonaaaaGreatDoor
open Go.RowKit
set_option maxRecDepth 100000 in
set_option maxHeartbeats 4000000 in
theorem named_any{P I k:Nat}{G:Hd}{p:Lfc.PE}(a:Nat)(kind:Int)(w:World)(h:ItF w w P I G p k (itCells (Lfc.Itm.new a) IS.nil))(hk:k≤p.toks.length)(ok:POk p) :
  Calls Tryz.prog 177 #[.pointer (some ⟨P,0,none⟩),.pointer (some ⟨I,0,none⟩),.int .i64 kind] w (ItRes P I G p w (p.namedP kind (Lfc.Itm.new a) k)):=by
 have hlen:=ok.len
 have hP:=h.pw.lt
 have hI:=h.lt
 have OK:=Lib.hid ok
 have F0:=Lib.hid h
 have HPI:=Lib.hid (And.intro hP hI)
 obtain⟨M,hm⟩:∃M,p.namedP kind (Lfc.Itm.new a) k=M:=⟨_,rfl⟩
 rw[hm]
 have HR:=Lib.hid hm.symm
 unfold Lfc.PE.namedP at HR
 clear h ok hm
 go_enter Tryz.func177,Tryz.ntmps177
 have FR:=Lfc.fair_name p k
 rcases Lfc.PR.cases FR.1 with⟨cc,aa,hr⟩ | ⟨n,k1,hr⟩
 ·have C:=Lib.hid (name_at w F0.out.pw (by omega) OK.out)
  rw[hr] at C
  have hm:=HR.out
  rw[hr,Lfc.PR.then_errE] at hm
  have HM:=Lib.hid hm
  clear hr FR hm
  go_wp2_with (go_at_call 138;refine C.out.mono ?_;rintro e w1⟨rfl,o1⟩)
  rw[HM.out]
  exact⟨rfl,rfl,(Oth2.refl P I w).trans (F0.out.oth.trans (Oth2.left o1))⟩
 have C:=Lib.hid (name_at w F0.out.pw (by omega) OK.out)
 rw[hr] at C
 have hm:=HR.out
 rw[hr,Lfc.PR.then_okE] at hm
 have HR:=Lib.hid hm
 obtain⟨hk1a,hk1b⟩:=FR.2.2 _ _ hr
 have HE1:=Lib.hid hr
 clear hr FR hm
 go_upto_region 1 with(go_at_call 138;refine C.out.mono ?_;rintro e w1⟨⟨v1,rfl,rfl⟩,h1,o1⟩;have F1a:=Lib.hid (F0.out.call h1 o1);obtain⟨s2,u2,e2,y2,z2,F2⟩:=F1a.out.set 0 (.int .i64 kind) (by decide);obtain⟨s3,u3,e3,y3,z3,F3⟩:=F2.out.set 2 (S n) (by decide))
 have hn:=name_le OK.out HE1.out
 have FR:=Lfc.fair_punct p k1 [46]
 rcases Lfc.PR.cases FR.1 with⟨cc,aa,hr⟩ | ⟨u,k4,hr⟩
 ·have C:=Lib.hid (punct_any [46] s3 F3.out.pw (by omega) OK.out)
  rw[hr] at C
  have hm:=HR.out
  rw[hr,Lfc.PR.then_errE] at hm
  have HM:=Lib.hid hm
  clear hr FR hm
  go_wp2_with (go_at_call 141;refine C.out.mono ?_;rintro e w4⟨rfl,o4⟩)
  rw[HM.out]
  exact⟨rfl,rfl,(Oth2.refl P I w).trans (F3.out.oth.trans (Oth2.left o4))⟩
 have C:=Lib.hid (punct_any [46] s3 F3.out.pw (by omega) OK.out)
 rw[hr] at C
 have hm:=HR.out
 rw[hr,Lfc.PR.then_okE] at hm
 have HR:=Lib.hid hm
 obtain⟨hk4a,hk4b⟩:=FR.2.2 _ _ hr
 have HE4:=Lib.hid hr
 clear hr FR hm
 go_wp2_with (go_at_call 141;refine C.out.mono ?_;rintro e w4⟨⟨v4,rfl,rfl⟩,h4,o4⟩;have F4a:=Lib.hid (F3.out.call h4 o4))
 go_end0
 rw[HR.out]
 exact(F4a.out.rebase (Oth2.refl P I w)).ret { Lfc.Itm.new a with kind:=kind,name:=n } IS.nil rfl (Stays.all fun W=>{ ItV.nil W a with name:=hn })
set_option maxRecDepth 100000 in
set_option maxHeartbeats 4000000 in
theorem query_any{P I k:Nat}{G:Hd}{p:Lfc.PE}(a:Nat)(w:World)(h:ItF w w P I G p k (itCells (Lfc.Itm.new a) IS.nil))(hk:k≤p.toks.length)(ok:POk p) :
  Calls Tryz.prog 137 #[.pointer (some ⟨P,0,none⟩),.pointer (some ⟨I,0,none⟩)] w (ItRes P I G p w (p.queryP (Lfc.Itm.new a) k)):=by
 have hlen:=ok.len
 have hP:=h.pw.lt
 have hI:=h.lt
 have OK:=Lib.hid ok
 have F0:=Lib.hid h
 have HPI:=Lib.hid (And.intro hP hI)
 obtain⟨M,hm⟩:∃M,p.queryP (Lfc.Itm.new a) k=M:=⟨_,rfl⟩
 rw[hm]
 have HR:=Lib.hid hm.symm
 unfold Lfc.PE.queryP at HR
 clear h ok hm
 go_enter Tryz.func137,Tryz.ntmps137
 have FR:=Lfc.fair_number p k 0 1000
 rcases Lfc.PR.cases FR.1 with⟨cc,aa,hr⟩ | ⟨c,k1,hr⟩
 ·have C:=Lib.hid (number_any 0 1000 w F0.out.pw (by omega) OK.out)
  rw[hr] at C
  have hm:=HR.out
  rw[hr,Lfc.PR.then_errE] at hm
  have HM:=Lib.hid hm
  clear hr FR hm
  go_wp2_with (go_at_call 180;refine C.out.mono ?_;rintro e w1⟨rfl,o1⟩)
  rw[HM.out]
  exact⟨rfl,rfl,(Oth2.refl P I w).trans (F0.out.oth.trans (Oth2.left o1))⟩
 have C:=Lib.hid (number_any 0 1000 w F0.out.pw (by omega) OK.out)
 rw[hr] at C
 have hm:=HR.out
 rw[hr,Lfc.PR.then_okE] at hm
 have HR:=Lib.hid hm
 obtain⟨hk1a,hk1b⟩:=FR.2.2 _ _ hr
 have HE1:=Lib.hid hr
 clear hr FR hm
 go_upto_region 1 with(go_at_call 180;refine C.out.mono ?_;rintro e w1⟨⟨v1,rfl,rfl⟩,h1,o1⟩;have F1a:=Lib.hid (F0.out.call h1 o1);obtain⟨s2,u2,e2,y2,z2,F2⟩:=F1a.out.set 0 (.int .i64 13) (by decide);obtain⟨s3,u3,e3,y3,z3,F3⟩:=F2.out.set 21 (.int .i64 c) (by decide))
 have FR:=Lfc.fair_expr p k1 (by omega)
 rcases Lfc.PR.cases FR.1 with⟨cc,aa,hr⟩ | ⟨t4,k4,hr⟩
 ·have C:=Lib.hid (expr_any p OK.out P k1 G s3 (by omega) F3.out.pw)
  rw[hr] at C
  have hm:=HR.out
  rw[hr,Lfc.PR.then_errE] at hm
  have HM:=Lib.hid hm
  clear hr FR hm
  go_wp2_with (go_at_call 35;refine C.out.mono ?_;rintro e w4⟨rfl,o4⟩)
  rw[HM.out]
  exact⟨rfl,rfl,(Oth2.refl P I w).trans (F3.out.oth.trans (Oth2.left o4))⟩
 have C:=Lib.hid (expr_any p OK.out P k1 G s3 (by omega) F3.out.pw)
 rw[hr] at C
 have hm:=HR.out
 rw[hr,Lfc.PR.then_okE] at hm
 have HR:=Lib.hid hm
 obtain⟨hk4a,hk4b⟩:=FR.2.2 _ _ hr
 have HE4:=Lib.hid hr
 clear hr FR hm
 go_upto_region 2 with(go_at_call 35;refine C.out.mono ?_;rintro e w4⟨⟨v4,rfl,hv⟩,h4,o4⟩;have F4a:=Lib.hid (F3.out.call h4 o4);obtain⟨k5,n5,p5,us5,A5,c5,ht5,rfl,hp5⟩:=TreeVP.parts4 hv;obtain⟨wb4,hwb4,bb4,T4⟩:=expr_one 46 (Nat.le_trans (Oth2.refl P I w).size F3.out.oth.size) o4.size hp5;have F4b:=Lib.hid (F4a.out.below bb4).again;have OT4:=Lib.hid ((Oth2.refl P I w).trans (F4a.out.below bb4).oth);obtain⟨s5,u5,e5,y5,z5,F5⟩:=F4b.out.set 3 (.slice (some ⟨w4.heap.size,0,none⟩) 1 1) (by decide))
 clear ht5 hp5 hv
 have FR:=Lfc.fair_punct p k4 [46]
 rcases Lfc.PR.cases FR.1 with⟨cc,aa,hr⟩ | ⟨u,k6,hr⟩
 ·have C:=Lib.hid (punct_any [46] s5 F5.out.pw (by omega) OK.out)
  rw[hr] at C
  have hm:=HR.out
  rw[hr,Lfc.PR.then_errE] at hm
  have HM:=Lib.hid hm
  clear hr FR hm
  go_wp2_with (go_at_call 141;refine C.out.mono ?_;rintro e w6⟨rfl,o6⟩)
  rw[HM.out]
  exact⟨rfl,rfl,OT4.out.trans (F5.out.oth.trans (Oth2.left o6))⟩
 have C:=Lib.hid (punct_any [46] s5 F5.out.pw (by omega) OK.out)
 rw[hr] at C
 have hm:=HR.out
 rw[hr,Lfc.PR.then_okE] at hm
 have HR:=Lib.hid hm
 obtain⟨hk6a,hk6b⟩:=FR.2.2 _ _ hr
 have HE6:=Lib.hid hr
 clear hr FR hm
 go_wp2_with (go_at_call 141;refine C.out.mono ?_;rintro e w6⟨⟨v6,rfl,rfl⟩,h6,o6⟩;have F6a:=Lib.hid (F5.out.call h6 o6))
 go_end0
 rw[HR.out]
 obtain⟨hPx,hIx⟩:=HPI.out
 exact(F6a.out.rebase OT4.out).ret { Lfc.Itm.new a with kind:=13,count:=c,type:=[t4] } { IS.nil with ty:=(some ⟨w4.heap.size,0,none⟩,1) } rfl ((T4.out.oth2 F6a.out.oth hPx hIx).imp fun W h=>{ ItV.nil W a with ty:=⟨h,Nat.le_refl _⟩ })
set_option maxRecDepth 100000 in
set_option maxHeartbeats 4000000 in
theorem decl_any{P I k:Nat}{G:Hd}{p:Lfc.PE}(a:Nat)(w:World)(h:ItF w w P I G p k (itCells (Lfc.Itm.new a) IS.nil))(hk:k≤p.toks.length)(ok:POk p) :
  Calls Tryz.prog 73 #[.pointer (some ⟨P,0,none⟩),.pointer (some ⟨I,0,none⟩)] w (ItRes P I G p w (p.declP (Lfc.Itm.new a) k)):=by
 have hlen:=ok.len
 have hP:=h.pw.lt
 have hI:=h.lt
 have OK:=Lib.hid ok
 have F0:=Lib.hid h
 have HPI:=Lib.hid (And.intro hP hI)
 obtain⟨M,hm⟩:∃M,p.declP (Lfc.Itm.new a) k=M:=⟨_,rfl⟩
 rw[hm]
 have HR:=Lib.hid hm.symm
 unfold Lfc.PE.declP at HR
 clear h ok hm
 go_enter Tryz.func73,Tryz.ntmps73
 have FR:=Lfc.fair_name p k
 rcases Lfc.PR.cases FR.1 with⟨cc,aa,hr⟩ | ⟨n,k1,hr⟩
 ·have C:=Lib.hid (name_at w F0.out.pw (by omega) OK.out)
  rw[hr] at C
  have hm:=HR.out
  rw[hr,Lfc.PR.then_errE] at hm
  have HM:=Lib.hid hm
  clear hr FR hm
  go_wp2_with (go_at_call 138;refine C.out.mono ?_;rintro e w1⟨rfl,o1⟩)
  rw[HM.out]
  exact⟨rfl,rfl,(Oth2.refl P I w).trans (F0.out.oth.trans (Oth2.left o1))⟩
 have C:=Lib.hid (name_at w F0.out.pw (by omega) OK.out)
 rw[hr] at C
 have hm:=HR.out
 rw[hr,Lfc.PR.then_okE] at hm
 have HR:=Lib.hid hm
 obtain⟨hk1a,hk1b⟩:=FR.2.2 _ _ hr
 have HE1:=Lib.hid hr
 clear hr FR hm
 go_upto_region 1 with(go_at_call 138;refine C.out.mono ?_;rintro e w1⟨⟨v1,rfl,rfl⟩,h1,o1⟩;have F1a:=Lib.hid (F0.out.call h1 o1);obtain⟨s2,u2,e2,y2,z2,F2⟩:=F1a.out.set 0 (.int .i64 2) (by decide);obtain⟨s3,u3,e3,y3,z3,F3⟩:=F2.out.set 2 (S n) (by decide))
 have HN:=Lib.hid (name_le OK.out HE1.out)
 cases hz:p.is k1 2 [58]
 ·skip
  have hm:=HR.out
  rw[if_neg (by rw[hz];decide)] at hm
  have HR:=Lib.hid hm
  clear hm
  have C:=Lib.hid (take_any 2 [58] s3 F3.out.pw (by omega) OK.out)
  simp only[hz,if_true,Bool.false_eq_true,if_false] at C
  go_upto_region 6 with(go_at_call 139;refine C.out.mono ?_;rintro e w4⟨rfl,h4,o4⟩;have F4a:=Lib.hid (F3.out.call h4 o4))
  clear hz
  have FR:=Lfc.fair_punct p k1 [61]
  rcases Lfc.PR.cases FR.1 with⟨cc,aa,hr⟩ | ⟨u,k5,hr⟩
  ·have C:=Lib.hid (punct_any [61] w4 F4a.out.pw (by omega) OK.out)
   rw[hr] at C
   have hm:=HR.out
   rw[hr,Lfc.PR.then_errE] at hm
   have HM:=Lib.hid hm
   clear hr FR hm
   go_wp2_with (go_at_call 141;refine C.out.mono ?_;rintro e w5⟨rfl,o5⟩)
   rw[HM.out]
   exact⟨rfl,rfl,(Oth2.refl P I w).trans (F4a.out.oth.trans (Oth2.left o5))⟩
  have C:=Lib.hid (punct_any [61] w4 F4a.out.pw (by omega) OK.out)
  rw[hr] at C
  have hm:=HR.out
  rw[hr,Lfc.PR.then_okE] at hm
  have HR:=Lib.hid hm
  obtain⟨hk5a,hk5b⟩:=FR.2.2 _ _ hr
  have HE5:=Lib.hid hr
  clear hr FR hm
  go_upto_region 7 with(go_at_call 141;refine C.out.mono ?_;rintro e w5⟨⟨v5,rfl,rfl⟩,h5,o5⟩;have F5a:=Lib.hid (F4a.out.call h5 o5))
  have FR:=Lfc.fair_expr p k5 (by omega)
  rcases Lfc.PR.cases FR.1 with⟨cc,aa,hr⟩ | ⟨t6,k6,hr⟩
  ·have C:=Lib.hid (expr_any p OK.out P k5 G w5 (by omega) F5a.out.pw)
   rw[hr] at C
   have hm:=HR.out
   rw[hr,Lfc.PR.then_errE] at hm
   have HM:=Lib.hid hm
   clear hr FR hm
   go_wp2_with (go_at_call 35;refine C.out.mono ?_;rintro e w6⟨rfl,o6⟩)
   rw[HM.out]
   exact⟨rfl,rfl,(Oth2.refl P I w).trans (F5a.out.oth.trans (Oth2.left o6))⟩
  have C:=Lib.hid (expr_any p OK.out P k5 G w5 (by omega) F5a.out.pw)
  rw[hr] at C
  have hm:=HR.out
  rw[hr,Lfc.PR.then_okE] at hm
  have HR:=Lib.hid hm
  obtain⟨hk6a,hk6b⟩:=FR.2.2 _ _ hr
  have HE6:=Lib.hid hr
  clear hr FR hm
  go_upto_region 8 with(go_at_call 35;refine C.out.mono ?_;rintro e w6⟨⟨v6,rfl,hv⟩,h6,o6⟩;have F6a:=Lib.hid (F5a.out.call h6 o6);obtain⟨k5,n5,p5,us5,A5,c5,ht5,rfl,hp5⟩:=TreeVP.parts4 hv;obtain⟨wb6,hwb6,bb6,T6⟩:=expr_one 46 (Nat.le_trans (Oth2.refl P I w).size F5a.out.oth.size) o6.size hp5;have F6b:=Lib.hid (F6a.out.below bb6).again;have OT6:=Lib.hid ((Oth2.refl P I w).trans (F6a.out.below bb6).oth);obtain⟨s7,u7,e7,y7,z7,F7⟩:=F6b.out.set 4 (.slice (some ⟨w6.heap.size,0,none⟩) 1 1) (by decide))
  clear ht5 hp5 hv
  have FR:=Lfc.fair_punct p k6 [46]
  rcases Lfc.PR.cases FR.1 with⟨cc,aa,hr⟩ | ⟨u',k8,hr⟩
  ·have C:=Lib.hid (punct_any [46] s7 F7.out.pw (by omega) OK.out)
   rw[hr] at C
   have hm:=HR.out
   rw[hr,Lfc.PR.then_errE] at hm
   have HM:=Lib.hid hm
   clear hr FR hm
   go_wp2_with (go_at_call 141;refine C.out.mono ?_;rintro e w8⟨rfl,o8⟩)
   rw[HM.out]
   exact⟨rfl,rfl,OT6.out.trans (F7.out.oth.trans (Oth2.left o8))⟩
  have C:=Lib.hid (punct_any [46] s7 F7.out.pw (by omega) OK.out)
  rw[hr] at C
  have hm:=HR.out
  rw[hr,Lfc.PR.then_okE] at hm
  have HR:=Lib.hid hm
  obtain⟨hk8a,hk8b⟩:=FR.2.2 _ _ hr
  have HE8:=Lib.hid hr
  clear hr FR hm
  go_wp2_with (go_at_call 141;refine C.out.mono ?_;rintro e w8⟨⟨v8,rfl,rfl⟩,h8,o8⟩;have F8a:=Lib.hid (F7.out.call h8 o8))
  go_end0
  rw[HR.out]
  obtain⟨hPx,hIx⟩:=HPI.out
  exact(F8a.out.rebase OT6.out).ret { Lfc.Itm.new a with kind:=2,name:=n,value:=[t6] } { IS.nil with va:=(some ⟨w6.heap.size,0,none⟩,1) } rfl ((T6.out.oth2 F8a.out.oth hPx hIx).imp fun W h=>{ ItV.nil W a with name:=HN.out,va:=⟨h,Nat.le_refl _⟩ })
 ·skip
  have hm:=HR.out
  rw[if_pos hz] at hm
  have HR:=Lib.hid hm
  clear hm
  have C:=Lib.hid (take_any 2 [58] s3 F3.out.pw (by omega) OK.out)
  simp only[hz,if_true,Bool.false_eq_true,if_false] at C
  have hk9a:k1+1≤p.toks.length:=Lfc.is_ltk (by decide) hz
  go_upto_region 2 with(go_at_call 139;refine C.out.mono ?_;rintro e w9⟨rfl,h9,o9⟩;have F9a:=Lib.hid (F3.out.call h9 o9))
  clear hz
  have FR:=Lfc.fair_expr p (k1+1) (by omega)
  rcases Lfc.PR.cases FR.1 with⟨cc,aa,hr⟩ | ⟨t10,k10,hr⟩
  ·have C:=Lib.hid (expr_any p OK.out P (k1+1) G w9 (by omega) F9a.out.pw)
   rw[hr] at C
   have hm:=HR.out
   rw[hr,Lfc.PR.then_errE] at hm
   have HM:=Lib.hid hm
   clear hr FR hm
   go_wp2_with (go_at_call 35;refine C.out.mono ?_;rintro e w10⟨rfl,o10⟩)
   rw[HM.out]
   exact⟨rfl,rfl,(Oth2.refl P I w).trans (F9a.out.oth.trans (Oth2.left o10))⟩
  have C:=Lib.hid (expr_any p OK.out P (k1+1) G w9 (by omega) F9a.out.pw)
  rw[hr] at C
  have hm:=HR.out
  rw[hr,Lfc.PR.then_okE] at hm
  have HR:=Lib.hid hm
  obtain⟨hk10a,hk10b⟩:=FR.2.2 _ _ hr
  have HE10:=Lib.hid hr
  clear hr FR hm
  go_upto_region 3 with(go_at_call 35;refine C.out.mono ?_;rintro e w10⟨⟨v10,rfl,hv⟩,h10,o10⟩;have F10a:=Lib.hid (F9a.out.call h10 o10);obtain⟨k5,n5,p5,us5,A5,c5,ht5,rfl,hp5⟩:=TreeVP.parts4 hv;obtain⟨wb10,hwb10,bb10,T10⟩:=expr_one 46 (Nat.le_trans (Oth2.refl P I w).size F9a.out.oth.size) o10.size hp5;have F10b:=Lib.hid (F10a.out.below bb10).again;have OT10:=Lib.hid ((Oth2.refl P I w).trans (F10a.out.below bb10).oth);obtain⟨s11,u11,e11,y11,z11,F11⟩:=F10b.out.set 3 (.slice (some ⟨w10.heap.size,0,none⟩) 1 1) (by decide))
  clear ht5 hp5 hv
  cases hz:p.is k10 2 [61]
  ·skip
   have hm:=HR.out
   rw[if_neg (by rw[hz];decide)] at hm
   have HR:=Lib.hid hm
   clear hm
   have C:=Lib.hid (is_any 2 [61] s11 F11.out.pw (by omega) OK.out)
   rw[hz] at C
   go_upto_region 4 with(go_at_call 140;refine C.out.mono ?_;rintro e w12⟨rfl,b12⟩;have F12a:=Lib.hid (F11.out.below b12))
   clear hz
   obtain⟨s13,u13,e13,y13,z13,F13⟩:=F12a.out.set 0 (.int .i64 1) (by decide)
   have FR:=Lfc.fair_punct p k10 [46]
   rcases Lfc.PR.cases FR.1 with⟨cc,aa,hr⟩ | ⟨u,k14,hr⟩
   ·have C:=Lib.hid (punct_any [46] s13 F13.out.pw (by omega) OK.out)
    rw[hr] at C
    have hm:=HR.out
    rw[hr,Lfc.PR.then_errE] at hm
    have HM:=Lib.hid hm
    clear hr FR hm
    go_wp2_with (go_at_call 141;refine C.out.mono ?_;rintro e w14⟨rfl,o14⟩)
    rw[HM.out]
    exact⟨rfl,rfl,OT10.out.trans (F13.out.oth.trans (Oth2.left o14))⟩
   have C:=Lib.hid (punct_any [46] s13 F13.out.pw (by omega) OK.out)
   rw[hr] at C
   have hm:=HR.out
   rw[hr,Lfc.PR.then_okE] at hm
   have HR:=Lib.hid hm
   obtain⟨hk14a,hk14b⟩:=FR.2.2 _ _ hr
   have HE14:=Lib.hid hr
   clear hr FR hm
   go_wp2_with (go_at_call 141;refine C.out.mono ?_;rintro e w14⟨⟨v14,rfl,rfl⟩,h14,o14⟩;have F14a:=Lib.hid (F13.out.call h14 o14))
   go_end0
   rw[HR.out]
   obtain⟨hPx,hIx⟩:=HPI.out
   exact(F14a.out.rebase OT10.out).ret { Lfc.Itm.new a with kind:=1,name:=n,type:=[t10] } { IS.nil with ty:=(some ⟨w10.heap.size,0,none⟩,1) } rfl ((T10.out.oth2 F14a.out.oth hPx hIx).imp fun W h=>{ ItV.nil W a with name:=HN.out,ty:=⟨h,Nat.le_refl _⟩ })
  ·skip
   have hm:=HR.out
   rw[if_pos hz] at hm
   have HR:=Lib.hid hm
   clear hm
   have C:=Lib.hid (is_any 2 [61] s11 F11.out.pw (by omega) OK.out)
   rw[hz] at C
   go_upto_region 6 with(go_at_call 140;refine C.out.mono ?_;rintro e w15⟨rfl,b15⟩;have F15a:=Lib.hid (F11.out.below b15))
   clear hz
   have FR:=Lfc.fair_punct p k10 [61]
   rcases Lfc.PR.cases FR.1 with⟨cc,aa,hr⟩ | ⟨u,k16,hr⟩
   ·have C:=Lib.hid (punct_any [61] w15 F15a.out.pw (by omega) OK.out)
    rw[hr] at C
    have hm:=HR.out
    rw[hr,Lfc.PR.then_errE] at hm
    have HM:=Lib.hid hm
    clear hr FR hm
    go_wp2_with (go_at_call 141;refine C.out.mono ?_;rintro e w16⟨rfl,o16⟩)
    rw[HM.out]
    exact⟨rfl,rfl,OT10.out.trans (F15a.out.oth.trans (Oth2.left o16))⟩
   have C:=Lib.hid (punct_any [61] w15 F15a.out.pw (by omega) OK.out)
   rw[hr] at C
   have hm:=HR.out
   rw[hr,Lfc.PR.then_okE] at hm
   have HR:=Lib.hid hm
   obtain⟨hk16a,hk16b⟩:=FR.2.2 _ _ hr
   have HE16:=Lib.hid hr
   clear hr FR hm
   go_upto_region 7 with(go_at_call 141;refine C.out.mono ?_;rintro e w16⟨⟨v16,rfl,rfl⟩,h16,o16⟩;have F16a:=Lib.hid (F15a.out.call h16 o16))
   have FR:=Lfc.fair_expr p k16 (by omega)
   rcases Lfc.PR.cases FR.1 with⟨cc,aa,hr⟩ | ⟨t17,k17,hr⟩
   ·have C:=Lib.hid (expr_any p OK.out P k16 G w16 (by omega) F16a.out.pw)
    rw[hr] at C
    have hm:=HR.out
    rw[hr,Lfc.PR.then_errE] at hm
    have HM:=Lib.hid hm
    clear hr FR hm
    go_wp2_with (go_at_call 35;refine C.out.mono ?_;rintro e w17⟨rfl,o17⟩)
    rw[HM.out]
    exact⟨rfl,rfl,OT10.out.trans (F16a.out.oth.trans (Oth2.left o17))⟩
   have C:=Lib.hid (expr_any p OK.out P k16 G w16 (by omega) F16a.out.pw)
   rw[hr] at C
   have hm:=HR.out
   rw[hr,Lfc.PR.then_okE] at hm
   have HR:=Lib.hid hm
   obtain⟨hk17a,hk17b⟩:=FR.2.2 _ _ hr
   have HE17:=Lib.hid hr
   clear hr FR hm
   go_upto_region 8 with(go_at_call 35;refine C.out.mono ?_;rintro e w17⟨⟨v17,rfl,hv⟩,h17,o17⟩;have F17a:=Lib.hid (F16a.out.call h17 o17);obtain⟨k5,n5,p5,us5,A5,c5,ht5,rfl,hp5⟩:=TreeVP.parts4 hv;obtain⟨wb17,hwb17,bb17,T17⟩:=expr_one 46 (Nat.le_trans OT10.out.size F16a.out.oth.size) o17.size hp5;have F17b:=Lib.hid (F17a.out.below bb17).again;have OT17:=Lib.hid (OT10.out.trans (F17a.out.below bb17).oth);have T17m0:=Lib.hid (T10.out.oth2 (F17a.out.below bb17).oth HPI.out.1 HPI.out.2);obtain⟨s18,u18,e18,y18,z18,F18⟩:=F17b.out.set 4 (.slice (some ⟨w17.heap.size,0,none⟩) 1 1) (by decide))
   clear ht5 hp5 hv
   have FR:=Lfc.fair_punct p k17 [46]
   rcases Lfc.PR.cases FR.1 with⟨cc,aa,hr⟩ | ⟨u',k19,hr⟩
   ·have C:=Lib.hid (punct_any [46] s18 F18.out.pw (by omega) OK.out)
    rw[hr] at C
    have hm:=HR.out
    rw[hr,Lfc.PR.then_errE] at hm
    have HM:=Lib.hid hm
    clear hr FR hm
    go_wp2_with (go_at_call 141;refine C.out.mono ?_;rintro e w19⟨rfl,o19⟩)
    rw[HM.out]
    exact⟨rfl,rfl,OT17.out.trans (F18.out.oth.trans (Oth2.left o19))⟩
   have C:=Lib.hid (punct_any [46] s18 F18.out.pw (by omega) OK.out)
   rw[hr] at C
   have hm:=HR.out
   rw[hr,Lfc.PR.then_okE] at hm
   have HR:=Lib.hid hm
   obtain⟨hk19a,hk19b⟩:=FR.2.2 _ _ hr
   have HE19:=Lib.hid hr
   clear hr FR hm
   go_wp2_with (go_at_call 141;refine C.out.mono ?_;rintro e w19⟨⟨v19,rfl,rfl⟩,h19,o19⟩;have F19a:=Lib.hid (F18.out.call h19 o19))
   go_end0
   rw[HR.out]
   obtain⟨hPx,hIx⟩:=HPI.out
   exact(F19a.out.rebase OT17.out).ret { Lfc.Itm.new a with kind:=2,name:=n,type:=[t10],value:=[t17] } { IS.nil with ty:=(some ⟨w10.heap.size,0,none⟩,1),va:=(some ⟨w17.heap.size,0,none⟩,1) } rfl (((T17m0.out.oth2 F19a.out.oth hPx hIx).and (T17.out.oth2 F19a.out.oth hPx hIx)).imp fun W ⟨h,h'⟩=>{ ItV.nil W a with name:=HN.out,ty:=⟨h,Nat.le_refl _⟩,va:=⟨h',Nat.le_refl _⟩ })
set_option maxRecDepth 100000 in
set_option maxHeartbeats 4000000 in
theorem opItem_any{P I k:Nat}{G:Hd}{p:Lfc.PE}(a:Nat)(fix:Int)(w:World)(h:ItF w w P I G p k (itCells (Lfc.Itm.new a) IS.nil))(hk:k≤p.toks.length)(ok:POk p) :
  Calls Tryz.prog 175 #[.pointer (some ⟨P,0,none⟩),.pointer (some ⟨I,0,none⟩),.int .i64 fix] w (ItRes P I G p w (p.opP (Lfc.Itm.new a) fix k)):=by
 have hlen:=ok.len
 have hP:=h.pw.lt
 have hI:=h.lt
 have OK:=Lib.hid ok
 have F0:=Lib.hid h
 have HPI:=Lib.hid (And.intro hP hI)
 obtain⟨M,hm⟩:∃M,p.opP (Lfc.Itm.new a) fix k=M:=⟨_,rfl⟩
 rw[hm]
 have HR:=Lib.hid hm.symm
 unfold Lfc.PE.opP at HR
 have CP:Hid (∀W k,k≤p.toks.length→PW W P G p k→Calls Tryz.prog 63 #[.pointer (some ⟨P,0,none⟩)] W fun e w'=>e=.returned (.agg #[.int .i64 (p.pk k).kind,S (p.pk k).text,.int .i64 ((p.pk k).pos:Int)])∧Below W.heap.size W w'):=Lib.hid fun W k hk hW=>peek_any W hW hk ok
 have hf2:=tok_f2
 clear h ok hm
 obtain⟨s1,u1,e1,y1,z1,F1⟩:=F0.out.set 0 (.int .i64 3) (by decide)
 obtain⟨s2,u2,e2,y2,z2,F2⟩:=F1.out.set 6 (.int .i64 fix) (by decide)
 go_enter Tryz.func175,Tryz.ntmps175
 go_upto_region 1 with fail
 have FR:=Lfc.fair_number p k 0 99
 rcases Lfc.PR.cases FR.1 with⟨cc,aa,hr⟩ | ⟨c,k3,hr⟩
 ·have C:=Lib.hid (number_any 0 99 s2 F2.out.pw (by omega) OK.out)
  rw[hr] at C
  have hm:=HR.out
  rw[hr,Lfc.PR.then_errE] at hm
  have HM:=Lib.hid hm
  clear hr FR hm
  go_wp2_with (go_at_call 180;refine C.out.mono ?_;rintro e w3⟨rfl,o3⟩)
  rw[HM.out]
  exact⟨rfl,rfl,(Oth2.refl P I w).trans (F2.out.oth.trans (Oth2.left o3))⟩
 have C:=Lib.hid (number_any 0 99 s2 F2.out.pw (by omega) OK.out)
 rw[hr] at C
 have hm:=HR.out
 rw[hr,Lfc.PR.then_okE] at hm
 have HR:=Lib.hid hm
 obtain⟨hk3a,hk3b⟩:=FR.2.2 _ _ hr
 have HE3:=Lib.hid hr
 clear hr FR hm
 go_upto_region 2 with(go_at_call 180;refine C.out.mono ?_;rintro e w3⟨⟨v3,rfl,rfl⟩,h3,o3⟩;have F3a:=Lib.hid (F2.out.call h3 o3);obtain⟨s4,u4,e4,y4,z4,F4⟩:=F3a.out.set 7 (.int .i64 c) (by decide))
 go_upto_region 3 with(go_at_call 63;refine(CP.out _ k3 (by omega) F4.out.pw).mono ?_;rintro e w5⟨rfl,b5⟩;have F5:=Lib.hid (F4.out.below b5))
 generalize hat:(p.pk k3).pos=at_ at *
 have HAT:=Lib.hid hat
 clear hat
 have FR:=Lfc.fair_name p k3
 rcases Lfc.PR.cases FR.1 with⟨cc,aa,hr⟩ | ⟨n,k6,hr⟩
 ·have C:=Lib.hid (name_at w5 F5.out.pw (by omega) OK.out)
  rw[hr] at C
  have hm:=HR.out
  rw[hr,Lfc.PR.then_errE] at hm
  have HM:=Lib.hid hm
  clear hr FR hm
  go_wp2_with (go_at_call 138;refine C.out.mono ?_;rintro e w6⟨rfl,o6⟩)
  rw[HM.out]
  exact⟨rfl,rfl,(Oth2.refl P I w).trans (F5.out.oth.trans (Oth2.left o6))⟩
 have C:=Lib.hid (name_at w5 F5.out.pw (by omega) OK.out)
 rw[hr] at C
 have hm:=HR.out
 rw[hr,Lfc.PR.then_okE] at hm
 have HR:=Lib.hid hm
 obtain⟨hk6a,hk6b⟩:=FR.2.2 _ _ hr
 have HE6:=Lib.hid hr
 clear hr FR hm
 go_upto_region 4 with(go_at_call 138;refine C.out.mono ?_;rintro e w6⟨⟨v6,rfl,rfl⟩,h6,o6⟩;have F6a:=Lib.hid (F5.out.call h6 o6);obtain⟨s7,u7,e7,y7,z7,F7⟩:=F6a.out.set 5 (S n) (by decide))
 have HN:=Lib.hid (name_le OK.out HE6.out)
 have FR:=Lfc.fair_punct p k6 [46]
 rcases Lfc.PR.cases FR.1 with⟨cc,aa,hr⟩ | ⟨u,k8,hr⟩
 ·have C:=Lib.hid (punct_any [46] s7 F7.out.pw (by omega) OK.out)
  rw[hr] at C
  have hm:=HR.out
  rw[hr,Lfc.PR.then_errE] at hm
  have HM:=Lib.hid hm
  clear hr FR hm
  go_wp2_with (go_at_call 141;refine C.out.mono ?_;rintro e w8⟨rfl,o8⟩)
  rw[HM.out]
  exact⟨rfl,rfl,(Oth2.refl P I w).trans (F7.out.oth.trans (Oth2.left o8))⟩
 have C:=Lib.hid (punct_any [46] s7 F7.out.pw (by omega) OK.out)
 rw[hr] at C
 have hm:=HR.out
 rw[hr,Lfc.PR.then_okE] at hm
 have HR:=Lib.hid hm
 obtain⟨hk8a,hk8b⟩:=FR.2.2 _ _ hr
 have HE8:=Lib.hid hr
 clear hr FR hm
 go_upto_region 5 with(go_at_call 141;refine C.out.mono ?_;rintro e w8⟨⟨v8,rfl,rfl⟩,h8,o8⟩;have F8a:=Lib.hid (F7.out.call h8 o8))
 have G0:Below w8.heap.size w8 w8.drew:=(Below.refl _ _).drew
 have AA:∀X Y:World,Below w8.heap.size w8 X→Below X.heap.size X Y→Below w8.heap.size w8 Y:=fun X Y h k=>h.trans (k.mono h.size)
 have SC:Hid (∀W,Below w8.heap.size w8 W→W.cell? ⟨P,3,none⟩=some (.slice G.B p.ops.length G.d)∧W.cell? ⟨I,5,none⟩=some (S n)∧W.cell? ⟨I,6,none⟩=some (.int .i64 fix)∧W.cell? ⟨I,7,none⟩=some (.int .i64 c)):=Lib.hid fun W hb=>⟨(F8a.out.below hb).pw.cells.2.2.2.1,Lib.cell_of_heap (F8a.out.below hb).it 5,Lib.cell_of_heap (F8a.out.below hb).it 6,Lib.cell_of_heap (F8a.out.below hb).it 7⟩
 have CA:Hid (∀W,Below w8.heap.size w8 W→Calls Tryz.prog 49 #[.slice G.B p.ops.length G.d,.agg #[S n,.int .i64 fix,.int .i64 c]] W (AddPostN W p.ops ⟨n,fix,c⟩)):=Lib.hid fun W hb=>opAdd_new p.ops ⟨n,fix,c⟩ G.B G.d W OK.out.ops HN.out (F8a.out.below hb).pw.cells.2.2.2.2.2.2.1
 obtain⟨l',e',hadd⟩:∃l' e',Lfc.added p.ops ⟨n,fix,c⟩=(l',e'):=⟨_,_,rfl⟩
 have hm:=HR.out
 unfold AddPostN at CA
 rw[hadd] at hm CA
 simp only at hm CA
 have HR:=Lib.hid hm
 clear hm hadd
 obtain⟨x3,i5,i6,i7⟩:=SC.out _ G0
 go_region_held3 (fun W=>W.cell? ⟨P,3,none⟩=some (.slice G.B p.ops.length G.d)∧W.cell? ⟨I,5,none⟩=some (S n)∧W.cell? ⟨I,6,none⟩=some (.int .i64 fix)∧W.cell? ⟨I,7,none⟩=some (.int .i64 c))
  (first | exact SC.out _ G0 | (refine SC.out _ ?_;assumption))
  (first
   |(go_at_call 49;((with_reducible refine(CA.out _ ?_).mono ?_));assumption;rintro e w9⟨⟨A',c',rfl,ho,hnew⟩,b'⟩;have b9:=AA _ _ (by assumption) b';have HO:=Lib.hid ho;have HNW:=Lib.hid hnew;clear ho hnew))
 have F9:=Lib.hid (F8a.out.below b9)
 clear x3 i5 i6 i7
 by_cases he:e'=0
 ·subst he
  rw[if_neg (by simp)] at HR
  have hpw:=F9.out.pw.ops (c:=c') HO.out
  have hst:w9.frozen? ⟨P,3,none⟩=false:=F9.out.pw.cells.2.2.2.2.1 3
  have hx3:w9.cell? ⟨P,3,none⟩=some (.slice G.B p.ops.length G.d):=F9.out.pw.cells.2.2.2.1
  have HPW:=Lib.hid hpw
  clear hpw
  go_wp2_with fail
  go_end0
  rw[HR.out]
  have oP:Oth P w9 (w9.setCell ⟨P,3,none⟩ (.slice A' l'.length c')):=Oth.set _ _
  exact⟨rfl,⟨_,HPW.out,fun J hJ hG=>⟨hG.1,fun _ a e=>by have h1:=HNW.out a e;have h2:=F8a.out.oth.size;have h3:w8.heap.size≤w8.drew.heap.size:=Nat.le_refl _;omega⟩⟩,⟨IS.nil,oP.heap F9.out.it F9.out.ne,Stays.all fun W=>{ ItV.nil W a with opn:=HN.out }⟩,F9.out.oth.trans (Oth2.left oP)⟩
 ·rw[if_pos he] at HR
  have he2:(e' != 0)=true:=by simpa using he
  clear he
  go_wp2_with (go_at_call 66;refine(pfail_any _ _ _).mono ?_;rintro e w10⟨rfl,rfl⟩)
  rw[HR.out]
  exact⟨rfl,rfl,F9.out.oth⟩
set_option maxRecDepth 100000 in
set_option maxHeartbeats 4000000 in
theorem prefix_any{P I k:Nat}{G:Hd}{p:Lfc.PE}(a:Nat)(w:World)(h:ItF w w P I G p k (itCells (Lfc.Itm.new a) IS.nil))(hk:k≤p.toks.length)(ok:POk p) :
  Calls Tryz.prog 126 #[.pointer (some ⟨P,0,none⟩),.pointer (some ⟨I,0,none⟩)] w (ItRes P I G p w (p.opP (Lfc.Itm.new a) 1 k)):=by
 have hlen:=ok.len
 have hP:=h.pw.lt
 have hI:=h.lt
 have OK:=Lib.hid ok
 have F0:=Lib.hid h
 have HPI:=Lib.hid (And.intro hP hI)
 obtain⟨M,hm⟩:∃M,p.opP (Lfc.Itm.new a) 1 k=M:=⟨_,rfl⟩
 rw[hm]
 have HR:=Lib.hid hm.symm
 clear h ok hm
 have FR:=Lfc.fair_op p (Lfc.Itm.new a) 1 k
 have CC:=Lib.hid (opItem_any a 1 w F0.out (by omega) OK.out)
 rcases Lfc.PR.cases FR.1 with⟨cc,aa,hr⟩ | ⟨x,k',hr⟩
 ·rw[hr] at CC
  have HM:=Lib.hid (HR.out.trans hr)
  clear hr FR
  go_enter Tryz.func126,Tryz.ntmps126
  go_wp2_with (go_at_call 175;refine CC.out.mono ?_;rintro e w1⟨rfl,HH⟩)
  rw[HM.out]
  exact⟨rfl,rfl,HH⟩
 ·rw[hr] at CC
  have HM:=Lib.hid (HR.out.trans hr)
  clear hr FR
  go_enter Tryz.func126,Tryz.ntmps126
  go_wp2_with (go_at_call 175;refine CC.out.mono ?_;rintro e w1⟨rfl,HH'⟩;have HH:=Lib.hid HH';clear HH')
  go_end0
  rw[HM.out]
  exact⟨rfl,HH.out⟩
set_option maxRecDepth 100000 in
set_option maxHeartbeats 4000000 in
theorem postfix_any{P I k:Nat}{G:Hd}{p:Lfc.PE}(a:Nat)(w:World)(h:ItF w w P I G p k (itCells (Lfc.Itm.new a) IS.nil))(hk:k≤p.toks.length)(ok:POk p) :
  Calls Tryz.prog 127 #[.pointer (some ⟨P,0,none⟩),.pointer (some ⟨I,0,none⟩)] w (ItRes P I G p w (p.opP (Lfc.Itm.new a) 2 k)):=by
 have hlen:=ok.len
 have hP:=h.pw.lt
 have hI:=h.lt
 have OK:=Lib.hid ok
 have F0:=Lib.hid h
 have HPI:=Lib.hid (And.intro hP hI)
 obtain⟨M,hm⟩:∃M,p.opP (Lfc.Itm.new a) 2 k=M:=⟨_,rfl⟩
 rw[hm]
 have HR:=Lib.hid hm.symm
 clear h ok hm
 have FR:=Lfc.fair_op p (Lfc.Itm.new a) 2 k
 have CC:=Lib.hid (opItem_any a 2 w F0.out (by omega) OK.out)
 rcases Lfc.PR.cases FR.1 with⟨cc,aa,hr⟩ | ⟨x,k',hr⟩
 ·rw[hr] at CC
  have HM:=Lib.hid (HR.out.trans hr)
  clear hr FR
  go_enter Tryz.func127,Tryz.ntmps127
  go_wp2_with (go_at_call 175;refine CC.out.mono ?_;rintro e w1⟨rfl,HH⟩)
  rw[HM.out]
  exact⟨rfl,rfl,HH⟩
 ·rw[hr] at CC
  have HM:=Lib.hid (HR.out.trans hr)
  clear hr FR
  go_enter Tryz.func127,Tryz.ntmps127
  go_wp2_with (go_at_call 175;refine CC.out.mono ?_;rintro e w1⟨rfl,HH'⟩;have HH:=Lib.hid HH';clear HH')
  go_end0
  rw[HM.out]
  exact⟨rfl,HH.out⟩
set_option maxRecDepth 100000 in
set_option maxHeartbeats 4000000 in
theorem covers_any{P I k:Nat}{G:Hd}{p:Lfc.PE}(a:Nat)(w:World)(h:ItF w w P I G p k (itCells (Lfc.Itm.new a) IS.nil))(hk:k≤p.toks.length)(ok:POk p) :
  Calls Tryz.prog 131 #[.pointer (some ⟨P,0,none⟩),.pointer (some ⟨I,0,none⟩)] w (ItRes P I G p w (p.namedP 7 (Lfc.Itm.new a) k)):=by
 have hlen:=ok.len
 have hP:=h.pw.lt
 have hI:=h.lt
 have OK:=Lib.hid ok
 have F0:=Lib.hid h
 have HPI:=Lib.hid (And.intro hP hI)
 obtain⟨M,hm⟩:∃M,p.namedP 7 (Lfc.Itm.new a) k=M:=⟨_,rfl⟩
 rw[hm]
 have HR:=Lib.hid hm.symm
 clear h ok hm
 have FR:=Lfc.fair_named p 7 (Lfc.Itm.new a) k
 have CC:=Lib.hid (named_any a 7 w F0.out (by omega) OK.out)
 rcases Lfc.PR.cases FR.1 with⟨cc,aa,hr⟩ | ⟨x,k',hr⟩
 ·rw[hr] at CC
  have HM:=Lib.hid (HR.out.trans hr)
  clear hr FR
  go_enter Tryz.func131,Tryz.ntmps131
  go_wp2_with (go_at_call 177;refine CC.out.mono ?_;rintro e w1⟨rfl,HH⟩)
  rw[HM.out]
  exact⟨rfl,rfl,HH⟩
 ·rw[hr] at CC
  have HM:=Lib.hid (HR.out.trans hr)
  clear hr FR
  go_enter Tryz.func131,Tryz.ntmps131
  go_wp2_with (go_at_call 177;refine CC.out.mono ?_;rintro e w1⟨rfl,HH'⟩;have HH:=Lib.hid HH';clear HH')
  go_end0
  rw[HM.out]
  exact⟨rfl,HH.out⟩
set_option maxRecDepth 100000 in
set_option maxHeartbeats 4000000 in
theorem uniqueI_any{P I k:Nat}{G:Hd}{p:Lfc.PE}(a:Nat)(w:World)(h:ItF w w P I G p k (itCells (Lfc.Itm.new a) IS.nil))(hk:k≤p.toks.length)(ok:POk p) :
  Calls Tryz.prog 132 #[.pointer (some ⟨P,0,none⟩),.pointer (some ⟨I,0,none⟩)] w (ItRes P I G p w (p.namedP 8 (Lfc.Itm.new a) k)):=by
 have hlen:=ok.len
 have hP:=h.pw.lt
 have hI:=h.lt
 have OK:=Lib.hid ok
 have F0:=Lib.hid h
 have HPI:=Lib.hid (And.intro hP hI)
 obtain⟨M,hm⟩:∃M,p.namedP 8 (Lfc.Itm.new a) k=M:=⟨_,rfl⟩
 rw[hm]
 have HR:=Lib.hid hm.symm
 clear h ok hm
 have FR:=Lfc.fair_named p 8 (Lfc.Itm.new a) k
 have CC:=Lib.hid (named_any a 8 w F0.out (by omega) OK.out)
 rcases Lfc.PR.cases FR.1 with⟨cc,aa,hr⟩ | ⟨x,k',hr⟩
 ·rw[hr] at CC
  have HM:=Lib.hid (HR.out.trans hr)
  clear hr FR
  go_enter Tryz.func132,Tryz.ntmps132
  go_wp2_with (go_at_call 177;refine CC.out.mono ?_;rintro e w1⟨rfl,HH⟩)
  rw[HM.out]
  exact⟨rfl,rfl,HH⟩
 ·rw[hr] at CC
  have HM:=Lib.hid (HR.out.trans hr)
  clear hr FR
  go_enter Tryz.func132,Tryz.ntmps132
  go_wp2_with (go_at_call 177;refine CC.out.mono ?_;rintro e w1⟨rfl,HH'⟩;have HH:=Lib.hid HH';clear HH')
  go_end0
  rw[HM.out]
  exact⟨rfl,HH.out⟩
set_option maxRecDepth 100000 in
set_option maxHeartbeats 4000000 in
theorem strictI_any{P I k:Nat}{G:Hd}{p:Lfc.PE}(a:Nat)(w:World)(h:ItF w w P I G p k (itCells (Lfc.Itm.new a) IS.nil))(hk:k≤p.toks.length)(ok:POk p) :
  Calls Tryz.prog 133 #[.pointer (some ⟨P,0,none⟩),.pointer (some ⟨I,0,none⟩)] w (ItRes P I G p w (p.namedP 9 (Lfc.Itm.new a) k)):=by
 have hlen:=ok.len
 have hP:=h.pw.lt
 have hI:=h.lt
 have OK:=Lib.hid ok
 have F0:=Lib.hid h
 have HPI:=Lib.hid (And.intro hP hI)
 obtain⟨M,hm⟩:∃M,p.namedP 9 (Lfc.Itm.new a) k=M:=⟨_,rfl⟩
 rw[hm]
 have HR:=Lib.hid hm.symm
 clear h ok hm
 have FR:=Lfc.fair_named p 9 (Lfc.Itm.new a) k
 have CC:=Lib.hid (named_any a 9 w F0.out (by omega) OK.out)
 rcases Lfc.PR.cases FR.1 with⟨cc,aa,hr⟩ | ⟨x,k',hr⟩
 ·rw[hr] at CC
  have HM:=Lib.hid (HR.out.trans hr)
  clear hr FR
  go_enter Tryz.func133,Tryz.ntmps133
  go_wp2_with (go_at_call 177;refine CC.out.mono ?_;rintro e w1⟨rfl,HH⟩)
  rw[HM.out]
  exact⟨rfl,rfl,HH⟩
 ·rw[hr] at CC
  have HM:=Lib.hid (HR.out.trans hr)
  clear hr FR
  go_enter Tryz.func133,Tryz.ntmps133
  go_wp2_with (go_at_call 177;refine CC.out.mono ?_;rintro e w1⟨rfl,HH'⟩;have HH:=Lib.hid HH';clear HH')
  go_end0
  rw[HM.out]
  exact⟨rfl,HH.out⟩
set_option maxRecDepth 100000 in
set_option maxHeartbeats 4000000 in
theorem infix_any{P I k:Nat}{G:Hd}{p:Lfc.PE}(a:Nat)(w:World)(h:ItF w w P I G p k (itCells (Lfc.Itm.new a) IS.nil))(hk:k≤p.toks.length)(ok:POk p) :
  Calls Tryz.prog 125 #[.pointer (some ⟨P,0,none⟩),.pointer (some ⟨I,0,none⟩)] w (ItRes P I G p w (p.infixP (Lfc.Itm.new a) k)):=by
 have hlen:=ok.len
 have hP:=h.pw.lt
 have hI:=h.lt
 have OK:=Lib.hid ok
 have F0:=Lib.hid h
 have HPI:=Lib.hid (And.intro hP hI)
 obtain⟨M,hm⟩:∃M,p.infixP (Lfc.Itm.new a) k=M:=⟨_,rfl⟩
 rw[hm]
 have HR:=Lib.hid hm.symm
 unfold Lfc.PE.infixP at HR
 clear h ok hm
 obtain⟨wa,hwa⟩:∃wa,w.alloc (.cells #[.int .i64 3,.int .i64 4,.int .i64 5] 3)=wa:=⟨_,rfl⟩
 have ba:Below w.heap.size w wa:=by rw[←hwa];exact(Below.refl _ _).alloc (Nat.le_refl _) _
 have qa:wa.heap[w.heap.size]?=some (.cells #[.int .i64 3,.int .i64 4,.int .i64 5] 3 (0,0)):=by rw[←hwa];exact heap_alloc_new _ _
 obtain⟨wb,hwb⟩:∃wb,wa.alloc (.cells #[S [110,111,110,101],S [108,101,102,116],S [114,105,103,104,116]] 9)=wb:=⟨_,rfl⟩
 have bb:Below wa.heap.size wa wb:=by rw[←hwb];exact(Below.refl _ _).alloc (Nat.le_refl _) _
 have qb:wb.heap[wa.heap.size]?=some (.cells #[S [110,111,110,101],S [108,101,102,116],S [114,105,103,104,116]] 9 (0,0)):=by rw[←hwb];exact heap_alloc_new _ _
 have F1:=Lib.hid ((F0.out.below ba).below bb)
 have QA:=Lib.hid ((bb.block _ (lt_of_block qa)).trans qa)
 have hwcs:∀j(hj:j<Lfc.fixes.length),wb.cell? ⟨wa.heap.size,0+j,none⟩=some (S Lfc.fixes[j]):=fun j hj=>by
  rw[Nat.zero_add,Lib.cell_of_heap qb j]
  have:j=0∨j=1∨j=2:=by
   have:Lfc.fixes.length=3:=rfl
   omega
  rcases this with rfl | rfl | rfl <;> rfl
 have C:=Lib.hid (word_any (k:=k) Lfc.fixes wa.heap.size 0 3 wb F1.out.pw (by omega) OK.out (by decide) (lt_of_block qb) hwcs)
 rw[show Lfc.fixes.length=3 from rfl] at C
 clear hwcs qa ba qb bb
 have FR:=Lfc.fair_word p k Lfc.fixes
 rcases Lfc.PR.cases FR.1 with⟨cc,aa,hr⟩ | ⟨i,k1,hr⟩
 ·rw[hr] at C
  have hm:=HR.out
  rw[hr,Lfc.PR.then_errE] at hm
  have HM:=Lib.hid hm
  clear hr FR hm
  go_enter Tryz.func125,Tryz.ntmps125
  go_wp2_with (go_at_call 174;refine C.out.mono ?_;rintro e w1⟨rfl,o1⟩)
  rw[HM.out]
  exact⟨rfl,rfl,F1.out.oth.trans (Oth2.left o1)⟩
 rw[hr] at C
 have hm:=HR.out
 rw[hr,Lfc.PR.then_okE] at hm
 have HR:=Lib.hid hm
 obtain⟨hi0,hi1,_,_⟩:=Lfc.PE.word_ok hr
 obtain⟨hk1a,hk1b⟩:=FR.2.2 _ _ hr
 clear hr FR hm
 have hi2:i=0∨i=1∨i=2:=by
  have:(Lfc.fixes.length:Int)=3:=rfl
  omega
 clear hi0 hi1
 rcases hi2 with rfl | rfl | rfl
 ·skip
  go_enter Tryz.func125,Tryz.ntmps125
  go_upto_region 1 with(go_at_call 174;refine C.out.mono ?_;rintro e w1⟨⟨v1,rfl,rfl⟩,h1,o1⟩;have F2:=Lib.hid (F1.out.call h1 o1);have c0:=Lib.cell_of_heap (o1.heap QA.out (by have:=HPI.out.1;omega)) 0)
  have CO:=Lib.hid (opItem_any a 3 w1 F2.out.again (by omega) OK.out)
  have FR:=Lfc.fair_op p (Lfc.Itm.new a) 3 k1
  have HZ:=Lib.hid F2.out.oth.size
  rcases Lfc.PR.cases FR.1 with⟨cc,aa,hr⟩ | ⟨x,k',hr⟩
  ·rw[hr] at CO
   have HM:=Lib.hid (HR.out.trans hr)
   clear hr FR
   go_wp2_with (go_at_call 175;refine CO.out.mono ?_;rintro e w2⟨rfl,o2⟩)
   rw[HM.out]
   exact⟨rfl,rfl,F2.out.oth.trans o2⟩
  ·rw[hr] at CO
   have HM:=Lib.hid (HR.out.trans hr)
   clear hr FR
   go_wp2_with (go_at_call 175;refine CO.out.mono ?_;rintro e w2⟨rfl,HH'⟩;have HH:=Lib.hid HH';clear HH')
   go_end0
   rw[HM.out]
   obtain⟨⟨G',g1,g2⟩,⟨s,q1,q2⟩,o2⟩:=HH.out
   exact⟨rfl,⟨G',g1,fun J hJ hG=>g2 J (Nat.lt_of_lt_of_le hJ HZ.out) hG⟩,⟨s,q1,q2.to (Nat.le_refl _) (fun _ _ _=>rfl) fun b _ hb=>Nat.le_trans HZ.out hb⟩,F2.out.oth.trans o2⟩
 ·skip
  go_enter Tryz.func125,Tryz.ntmps125
  go_upto_region 1 with(go_at_call 174;refine C.out.mono ?_;rintro e w1⟨⟨v1,rfl,rfl⟩,h1,o1⟩;have F2:=Lib.hid (F1.out.call h1 o1);have c0:=Lib.cell_of_heap (o1.heap QA.out (by have:=HPI.out.1;omega)) 1)
  have CO:=Lib.hid (opItem_any a 4 w1 F2.out.again (by omega) OK.out)
  have FR:=Lfc.fair_op p (Lfc.Itm.new a) 4 k1
  have HZ:=Lib.hid F2.out.oth.size
  rcases Lfc.PR.cases FR.1 with⟨cc,aa,hr⟩ | ⟨x,k',hr⟩
  ·rw[hr] at CO
   have HM:=Lib.hid (HR.out.trans hr)
   clear hr FR
   go_wp2_with (go_at_call 175;refine CO.out.mono ?_;rintro e w2⟨rfl,o2⟩)
   rw[HM.out]
   exact⟨rfl,rfl,F2.out.oth.trans o2⟩
  ·rw[hr] at CO
   have HM:=Lib.hid (HR.out.trans hr)
   clear hr FR
   go_wp2_with (go_at_call 175;refine CO.out.mono ?_;rintro e w2⟨rfl,HH'⟩;have HH:=Lib.hid HH';clear HH')
   go_end0
   rw[HM.out]
   obtain⟨⟨G',g1,g2⟩,⟨s,q1,q2⟩,o2⟩:=HH.out
   exact⟨rfl,⟨G',g1,fun J hJ hG=>g2 J (Nat.lt_of_lt_of_le hJ HZ.out) hG⟩,⟨s,q1,q2.to (Nat.le_refl _) (fun _ _ _=>rfl) fun b _ hb=>Nat.le_trans HZ.out hb⟩,F2.out.oth.trans o2⟩
 ·skip
  go_enter Tryz.func125,Tryz.ntmps125
  go_upto_region 1 with(go_at_call 174;refine C.out.mono ?_;rintro e w1⟨⟨v1,rfl,rfl⟩,h1,o1⟩;have F2:=Lib.hid (F1.out.call h1 o1);have c0:=Lib.cell_of_heap (o1.heap QA.out (by have:=HPI.out.1;omega)) 2)
  have CO:=Lib.hid (opItem_any a 5 w1 F2.out.again (by omega) OK.out)
  have FR:=Lfc.fair_op p (Lfc.Itm.new a) 5 k1
  have HZ:=Lib.hid F2.out.oth.size
  rcases Lfc.PR.cases FR.1 with⟨cc,aa,hr⟩ | ⟨x,k',hr⟩
  ·rw[hr] at CO
   have HM:=Lib.hid (HR.out.trans hr)
   clear hr FR
   go_wp2_with (go_at_call 175;refine CO.out.mono ?_;rintro e w2⟨rfl,o2⟩)
   rw[HM.out]
   exact⟨rfl,rfl,F2.out.oth.trans o2⟩
  ·rw[hr] at CO
   have HM:=Lib.hid (HR.out.trans hr)
   clear hr FR
   go_wp2_with (go_at_call 175;refine CO.out.mono ?_;rintro e w2⟨rfl,HH'⟩;have HH:=Lib.hid HH';clear HH')
   go_end0
   rw[HM.out]
   obtain⟨⟨G',g1,g2⟩,⟨s,q1,q2⟩,o2⟩:=HH.out
   exact⟨rfl,⟨G',g1,fun J hJ hG=>g2 J (Nat.lt_of_lt_of_le hJ HZ.out) hG⟩,⟨s,q1,q2.to (Nat.le_refl _) (fun _ _ _=>rfl) fun b _ hb=>Nat.le_trans HZ.out hb⟩,F2.out.oth.trans o2⟩
end Go.Proofs.YthajalgkjonaaaaGreatDoor
