/- Parts of the proof that no input makes the law false: PaApp, PaFm1, PaRd1, VMap, PaDir. -/
import Derived.Maps.OwnSet
import Derived.Maps.Views
import Derived.Test.YthajalgkjonaaaaGreatDoorBxAM
set_option linter.unusedVariables false
set_option linter.unusedSimpArgs false
set_option maxRecDepth 100000
set_option maxHeartbeats 32000000
namespace Go.Proofs.YthajalgkjonaaaaGreatDoor
open Go.RowKit
section
variable {P:Program} (w:World)
theorem run_append_own_nilsrc(base:Nat)(t ty e:TypeId)(i:TypeInfo)(ht:P.underlying t=some (.slice e))(hi:P.info? e=some i)(v:Value)(n:Nat)(xs:List Value)(hown:w.ownsRow base e i.size v n xs)(c:Nat) :
  (Builtin.append_ #[t,t] ty #[v,.slice none 0 c]).run P w=.ok v w:=by
 rcases hown.2 with⟨rfl,rfl⟩ | ⟨g,cap,cur,rfl,hbg,hg,hnc,hcm,hcs,htake⟩
 ·simp[Builtin.append_,run_underlying ht,sizeOf,typeInfo,hi,Builtin.lenOf,Builtin.firstCells,loadCells,loadCellsFrom]
 have hst:=run_storeCells_at P g (n*i.size) e [] 0 cur w hg (by rw[hcs];simp;exact Nat.mul_le_mul_right _ hnc) (by simp);have hset:w.setRow g cur=w:=by
  unfold World.setRow
  congr 1
  apply Array.ext_getElem?;intro j;simp[zM];intro hj;subst hj;rw[hg];rfl
 simp at hst;simp[Builtin.append_,run_underlying ht,sizeOf,typeInfo,hi,Builtin.lenOf,Builtin.firstCells,hnc,loadCells,loadCellsFrom,Addr.add_lit,hst,hset]
theorem run_append_own_any(base:Nat)(t ty e:TypeId)(i:TypeInfo)(z:Value)(size bytes:Nat)(ht:P.underlying t=some (.slice e))(hi:P.info? e=some i)(hz:i.zero=some z)
  (hsize:i.size=size) (hby:i.bytes=bytes) (hzs:z.cells.size=size) (hsz:0<size)
  (v:Value) (n:Nat) (xs:List Value) (hown:w.ownsRow base e size v n xs)
  (A:Option Addr) (m c:Nat) (news:List Value) (hl:news.length=m*size) (hnews:m≠0→∃a,A=some a∧∀j u,news[j]?=some u→w.cell? (a.add j)=some u) (h1:∀u∈news,u.oneCell'=true)
  (h63:n+m≤maxLen) (hbytes:(n+m)*bytes≤140737488355328) (hbase:base≤w.heap.size) :
  ∃v' w',(Builtin.append_ #[t,t] ty #[v,.slice A m c]).run P w=.ok v' w'∧w'.ownsRow base e size v' (n+m) (xs++news)∧w.grownBy w' v.ownBlock∧(v'.ownBlock=v.ownBlock∨v'.ownBlock=some w.heap.size):=by
 rcases A with _ | a
 ·have hm:m=0:=by
   by_cases e:m=0
   ·exact e
   obtain⟨a,h,_⟩:=hnews e;cases h
  subst hm;have hn:news=[]:=List.eq_nil_of_length_eq_zero (by simpa using hl);subst hn;subst hsize;exact⟨v,w,run_append_own_nilsrc w base t ty e i ht hi v n xs hown c,by simpa using hown,⟨rfl,rfl,rfl,zN _,fun _ _ _=>rfl⟩,.inl rfl⟩
 obtain⟨v',w',hr,h2,h3,_,h5⟩:=run_append_own_at (P:=P) w base t ty e i z size bytes ht hi hz hsize hby hzs hsz v n xs hown a m c news hl (fun j u hj=>by
  by_cases hm:m=0
  ·subst hm;have hn:news=[]:=List.eq_nil_of_length_eq_zero (by simpa using hl);subst hn;simp at hj
  obtain⟨a',ha,h⟩:=hnews hm;cases ha;exact h j u hj) h1 h63 hbytes hbase
 exact⟨v',w',hr,h2,h3,h5⟩
theorem step_append_own_any{ops:Array Oper}{o:Oper}{a:Act}{K:Act→World→Prop}{Q:Exit→Act→World→Prop}{E:Prop}(hgd:o.guard=none)(s x:Operand)(t:TypeId)
  (ho:o.op=.call { callee:=.builtin .append,args:=#[s,x],argTypes:=#[t,t] })
  (base:Nat) (e:TypeId) (i:TypeInfo) (z:Value) (size bytes:Nat) (ht:P.underlying t=some (.slice e)) (hi:P.info? e=some i) (hz:i.zero=some z)
  (hsize:i.size=size) (hby:i.bytes=bytes) (hzs:z.cells.size=size) (hsz:0<size)
  (v:Value) (n:Nat) (xs:List Value) (hs:a.eval s=v) (hown:w.ownsRow base e size v n xs)
  (A:Option Addr) (m c:Nat) (news:List Value) (hx:a.eval x=.slice A m c) (hl:news.length=m*size) (hnews:m≠0→∃a,A=some a∧∀j u,news[j]?=some u→w.cell? (a.add j)=some u) (h1:∀u∈news,u.oneCell'=true)
  (h63:n+m≤maxLen) (hbytes:(n+m)*bytes≤140737488355328) (hbase:base≤w.heap.size)
  (h:∀v' w',w'.ownsRow base e size v' (n+m) (xs++news)→w.grownBy w' v.ownBlock→(v'.ownBlock=v.ownBlock∨v'.ownBlock=some w.heap.size)→K (a.put o.dst v') w') :
  if Region.wanted o (yielded ops a.tmps)=true then Oper.wp P o a w K Q else E:=by
 have hw:Region.wanted o (yielded ops a.tmps)=true:=by simp[Region.wanted,hgd]
 rw[if_pos hw];obtain⟨v',w',hr,h2,h3,h5⟩:=run_append_own_any (P:=P) w base t o.type e i z size bytes ht hi hz hsize hby hzs hsz v n xs hown A m c news hl hnews h1 h63 hbytes hbase;unfold Oper.wp execOp;simp only[ho,resolve,invoke,builtin,Sem.run_bind,Sem.run_pure,Result.andThen_ok,List.map_toArray,List.map_cons,List.map_nil,hs,hx,hr];exact h v' w' h2 h3 h5
theorem wpList_append_own_any{ops:Array Oper}{rest:List Oper}{o:Oper}{a:Act}{Q:Exit→Act→World→Prop}(hgd:o.guard=none)(s x:Operand)(t:TypeId)
  (ho:o.op=.call { callee:=.builtin .append,args:=#[s,x],argTypes:=#[t,t] })
  (base:Nat) (e:TypeId) (i:TypeInfo) (z:Value) (size bytes:Nat) (ht:P.underlying t=some (.slice e)) (hi:P.info? e=some i) (hz:i.zero=some z)
  (hsize:i.size=size) (hby:i.bytes=bytes) (hzs:z.cells.size=size) (hsz:0<size)
  (v:Value) (n:Nat) (xs:List Value) (hs:a.eval s=v) (hown:w.ownsRow base e size v n xs)
  (A:Option Addr) (m c:Nat) (news:List Value) (hx:a.eval x=.slice A m c) (hl:news.length=m*size) (hnews:m≠0→∃a,A=some a∧∀j u,news[j]?=some u→w.cell? (a.add j)=some u) (h1:∀u∈news,u.oneCell'=true)
  (h63:n+m≤maxLen) (hbytes:(n+m)*bytes≤140737488355328) (hbase:base≤w.heap.size)
  (h:∀v' w',w'.ownsRow base e size v' (n+m) (xs++news)→w.grownBy w' v.ownBlock→(v'.ownBlock=v.ownBlock∨v'.ownBlock=some w.heap.size)→wpList P ops Q rest (a.put o.dst v') w') :
  wpList P ops Q (o :: rest) a w:=by
 refine wpList_plain hgd fun K hK=>?_;obtain⟨v',w',hr,h2,h3,h5⟩:=run_append_own_any (P:=P) w base t o.type e i z size bytes ht hi hz hsize hby hzs hsz v n xs hown A m c news hl hnews h1 h63 hbytes hbase;unfold Oper.wp execOp;simp only[ho,resolve,invoke,builtin,Sem.run_bind,Sem.run_pure,Result.andThen_ok,List.map_toArray,List.map_cons,List.map_nil,hs,hx,hr];exact hK _ _ (h v' w' h2 h3 h5)
end
end Go.Proofs.YthajalgkjonaaaaGreatDoor
namespace Lfc
def Itm.formedP(x:Itm):Bool :=
 if x.kind=1 then isName x.name && decide (x.type.length=1) && ({ x with name:=[],type:=[] }:Itm).blank
 else if x.kind=2 then isName x.name && decide (x.type.length≤1) && decide (x.value.length=1) && ({ x with name:=[],type:=[],value:=[] }:Itm).blank
 else if x.kind=3 then({ x with op:=⟨[],0,0⟩ }:Itm).blank
 else if x.kind=4 then isName x.name && decide (0<x.params.length) && bndsF x.som && bndsF x.params && ({ x with name:=[],som:=[],params:=[] }:Itm).blank
 else if x.kind=5 then namesF' x.blocks && decide (0<x.fams.length) && namesF' x.fams && ({ x with blocks:=[],fams:=[] }:Itm).blank
 else if x.kind=6 then isName x.name && !x.signs.any signBad && ({ x with name:=[],signs:=[] }:Itm).blank
 else if x.kind=7∨x.kind=8∨x.kind=9 then isName x.name && ({ x with name:=[] }:Itm).blank
 else if x.kind=10∨x.kind=11 then fordsF x.orders && ({ x with orders:=[] }:Itm).blank
 else if x.kind=12 then isName x.name && x.left.ofm 0 && x.right.ofm 0 && decide (1≤x.rel) && decide (x.rel≤3) && ({ x with name:=[],left:=Ord.nil,right:=Ord.nil,rel:=0 }:Itm).blank
 else if x.kind=13 then decide (x.type.length=1) && decide (0≤x.count) && decide (x.count≤1000) && ({ x with type:=[],count:=0 }:Itm).blank
 else false
def Itm.trees(x:Itm):List Raw:=x.type++x.value++(x.som++x.params).map Prod.snd
structure Itm.Sm(x:Itm):Prop where
 ty:x.type.length≤100000
 va:x.value.length≤100000
 so:x.som.length≤100000
 pa:x.params.length≤100000
 bl:x.blocks.length≤100000
 fa:x.fams.length≤100000
 si:x.signs.length≤100000
 od:x.orders.length≤100000
 bln:∀n∈x.blocks,n.length≤1000000
 fan:∀n∈x.fams,n.length≤1000000
 ors:∀y∈x.orders,y.2.size≤100000
 les:x.left.size≤100000
 ris:x.right.size≤100000
 trs:∀t∈x.trees,t.size≤1000000
theorem Itm.Sm.lens{x:Itm}(h:x.Sm):x.lens≤1000000:=by
 have:=h.ty;have:=h.va;have:=h.so;have:=h.pa;have:=h.bl;have:=h.fa;have:=h.si;have:=h.od;unfold Itm.lens;omega
end Lfc
namespace Go.Proofs.YthajalgkjonaaaaGreatDoor
section
open Go.RowKit _root_.Lfc
theorem enters_clr1:∀args w,(callFunc 82 args).run Tryz.prog w=.ok (.enter 82 args) w:=enters_of Tryz.func82 (by kernel_rfl) rfl
theorem enters_clr3:∀args w,(callFunc 84 args).run Tryz.prog w=.ok (.enter 84 args) w:=enters_of Tryz.func84 (by kernel_rfl) rfl
theorem formed_const(x:Itm)(s:IS)(w:World)(hk:x.kind=1)(hx:x.Sm)(hv:ItV w x s):Calls Tryz.prog 46 #[.agg (itCells x s)] w fun e w'=>e=.returned (.bool x.formedP)/\zb w w':=by
 have hn:=hv.name;have hlen:=hx.lens;have HO:=zH (fun W=>only_any 82 enters_clr1 x { x with name:=[],type:=[] } s ({ s with ty:=(none,0) }) W (by have:=hx.lens;simp only[Itm.lens] at this ⊢;simp;omega) (fun W K hK=>clr1 x s K W hK));have CN:=zH (fun W=>isName_any x.name W (by omega));have HF:Hid (x.formedP=(isName x.name && decide (x.type.length=1) && ({ x with name:=[],type:=[] }:Itm).blank)):=zH (by unfold Itm.formedP;simp[hk]);rw[HF.o];clear HF hx hv hlen;generalize Itm.blank _=p9 at *;obtain⟨kind,pos,name,type,value,⟨on,of,op⟩,som,params,blocks,fams,signs,orders,⟨lk,la,lp⟩,⟨rk,ra,rp⟩,rel,count⟩:=x;simp only at hk hn CN;subst hk;simp only[itCells,Lfc.Ord.k,Lfc.Ord.a,Lfc.Ord.ps] at HO ⊢;obtain⟨w1,hw1⟩:∃w1,w.alloc (.cells #[zI 1,zI (pos:Int),S name,.slice s.ty.1 type.length s.ty.2,.slice s.va.1 value.length s.va.2,S on,zI of,zI op,.slice s.so.1 som.length s.so.2,.slice s.pa.1 params.length s.pa.2,.slice s.bl.1 blocks.length s.bl.2,.slice s.fa.1 fams.length s.fa.2,.slice s.si.1 signs.length s.si.2,.slice s.od.1 orders.length s.od.2,zI lk,zI la,.slice s.le.1 lp.length s.le.2,zI rk,zI ra,.slice s.ri.1 rp.length s.ri.2,zI rel,zI count] 42)=w1:=⟨_,rfl⟩;have b1:=zG hw1;have q1:=zQ hw1;have y0:=zC q1 0;have y2:=zC q1 2;have y3:=zC q1 3;simp at y0 y2 y3;have hld:=it_load q1 rfl;clear q1;have e2:((type.length:Int) == 1)=decide (type.length=1):=by by_cases h:type.length=1 <;> simp[h];omega
 generalize isName name=p1 at *;generalize decide (type.length=1)=p2 at *;cases p1
 ·go_enter Tryz.func46,Tryz.ntmps46;go_upto_region 1 with fail;clear hw1;go_wp2_with (go_at_call 80;refine(CN.o _).mono ?_;rintro e wn⟨rfl,rfl⟩);go_ret;exact⟨rfl,b1⟩
 cases p2
 ·go_enter Tryz.func46,Tryz.ntmps46;go_upto_region 1 with fail;clear hw1;go_wp2_with (go_at_call 80;refine(CN.o _).mono ?_;rintro e wn⟨rfl,rfl⟩);go_ret;exact⟨rfl,b1⟩
 go_enter Tryz.func46,Tryz.ntmps46;go_upto_region 1 with fail;clear hw1;go_wp2_with (first | (refine wpList_it (by rfl) (by rfl) (by rfl) hld ?_) | (go_at_call 80;refine(CN.o _).mono ?_;rintro e wn⟨rfl,rfl⟩) | (go_at_call 81;refine(HO.o _).mono ?_;rintro e wo⟨rfl,bo⟩;have br:=b1.trans (bo.mono b1.size)));go_ret;exact⟨by simp,br⟩
theorem formed_op(x:Itm)(s:IS)(w:World)(hk:x.kind=3)(hx:x.Sm)(hv:ItV w x s):Calls Tryz.prog 46 #[.agg (itCells x s)] w fun e w'=>e=.returned (.bool x.formedP)/\zb w w':=by
 have hn:=hv.name;have hlen:=hx.lens;have HO:=zH (fun W=>only_any 84 enters_clr3 x { x with op:=⟨[],0,0⟩ } s (s) W (by have:=hx.lens;simp only[Itm.lens] at this ⊢;simp;omega) (fun W K hK=>clr3 x s K W hK));have CN:=zH (fun W=>isName_any x.name W (by omega));have HF:Hid (x.formedP=({ x with op:=⟨[],0,0⟩ }:Itm).blank):=zH (by unfold Itm.formedP;simp[hk]);rw[HF.o];clear HF hx hv hlen;generalize Itm.blank _=p9 at *;obtain⟨kind,pos,name,type,value,⟨on,of,op⟩,som,params,blocks,fams,signs,orders,⟨lk,la,lp⟩,⟨rk,ra,rp⟩,rel,count⟩:=x;simp only at hk hn CN;subst hk;simp only[itCells,Lfc.Ord.k,Lfc.Ord.a,Lfc.Ord.ps] at HO ⊢;obtain⟨w1,hw1⟩:∃w1,w.alloc (.cells #[zI 3,zI (pos:Int),S name,.slice s.ty.1 type.length s.ty.2,.slice s.va.1 value.length s.va.2,S on,zI of,zI op,.slice s.so.1 som.length s.so.2,.slice s.pa.1 params.length s.pa.2,.slice s.bl.1 blocks.length s.bl.2,.slice s.fa.1 fams.length s.fa.2,.slice s.si.1 signs.length s.si.2,.slice s.od.1 orders.length s.od.2,zI lk,zI la,.slice s.le.1 lp.length s.le.2,zI rk,zI ra,.slice s.ri.1 rp.length s.ri.2,zI rel,zI count] 42)=w1:=⟨_,rfl⟩;have b1:=zG hw1;have q1:=zQ hw1;have y0:=zC q1 0;have y2:=zC q1 2;have y3:=zC q1 3;simp at y0 y2 y3;have hld:=it_load q1 rfl;clear q1;generalize isName name=p1 at *;go_enter Tryz.func46,Tryz.ntmps46;go_upto_region 1 with fail;clear hw1;go_wp2_with (first | (refine wpList_it (by rfl) (by rfl) (by rfl) hld ?_) | (go_at_call 80;refine(CN.o _).mono ?_;rintro e wn⟨rfl,rfl⟩) | (go_at_call 81;refine(HO.o _).mono ?_;rintro e wo⟨rfl,bo⟩;have br:=b1.trans (bo.mono b1.size)));go_ret;exact⟨rfl,br⟩
theorem named_any{P I k:Nat}{G:Hd}{p:Lfc.PE}(a:Nat)(kind:Int)(w:World)(h:ItF w w P I G p k (itCells (Itm.new a) IS.nil))(hk:k<=p.toks.length)(ok:POk p) :
  Calls Tryz.prog 177 #[.pointer (some ⟨P,0,none⟩),.pointer (some ⟨I,0,none⟩),zI kind] w (ItRes P I G p w (p.namedP kind (Itm.new a) k)):=by
 have hlen:=ok.len;have hP:=h.pw.lt;have hI:=h.lt;have OK:=zH ok;have F0:=zH h;have HPI:=zJ hP hI;obtain⟨M,hm⟩:∃M,p.namedP kind (Itm.new a) k=M:=⟨_,rfl⟩;rw[hm];have HR:=zH hm.symm;unfold Lfc.PE.namedP at HR;clear h ok hm;go_enter Tryz.func177,Tryz.ntmps177;have FR:=fair_name p k;rcases Lfc.PR.cases FR.1 with⟨cc,aa,hr⟩ | ⟨n,k1,hr⟩
 ·have C:=zH (name_at w F0.o.pw (by omega) OK.o);rw[hr] at C;have hm:=HR.o;rw[hr,Lfc.PR.then_errE] at hm;have HM:=zH hm;clear hr FR hm;go_wp2_with (go_at_call 138;refine C.o.mono ?_;rintro e w1⟨rfl,o1⟩);rw[HM.o];exact⟨rfl,rfl,(Oth2.refl P I w).trans (F0.o.oth.trans (Oth2.left o1))⟩
 have C:=zH (name_at w F0.o.pw (by omega) OK.o);rw[hr] at C;have hm:=HR.o;rw[hr,Lfc.PR.then_okE] at hm;have HR:=zH hm;obtain⟨hk1a,hk1b⟩:=FR.2.2 _ _ hr;have HE1:=zH hr;clear hr FR hm;go_upto_region 1 with(go_at_call 138;refine C.o.mono ?_;rintro e w1⟨⟨v1,rfl,rfl⟩,h1,o1⟩;have F1a:=zH (F0.o.call h1 o1);obtain⟨s2,u2,e2,y2,z2,F2⟩:=F1a.o.set 0 (zI kind) (by decide);obtain⟨s3,u3,e3,y3,z3,F3⟩:=F2.o.set 2 (S n) (by decide));have hn:=name_le OK.o HE1.o;have FR:=fair_punct p k1 [46];rcases Lfc.PR.cases FR.1 with⟨cc,aa,hr⟩ | ⟨u,k4,hr⟩
 ·have C:=zH (punct_any [46] s3 F3.o.pw (by omega) OK.o);rw[hr] at C;have hm:=HR.o;rw[hr,Lfc.PR.then_errE] at hm;have HM:=zH hm;clear hr FR hm;go_wp2_with (go_at_call 141;refine C.o.mono ?_;rintro e w4⟨rfl,o4⟩);rw[HM.o];exact⟨rfl,rfl,(Oth2.refl P I w).trans (F3.o.oth.trans (Oth2.left o4))⟩
 have C:=zH (punct_any [46] s3 F3.o.pw (by omega) OK.o);rw[hr] at C;have hm:=HR.o;rw[hr,Lfc.PR.then_okE] at hm;have HR:=zH hm;obtain⟨hk4a,hk4b⟩:=FR.2.2 _ _ hr;have HE4:=zH hr;clear hr FR hm;go_wp2_with (go_at_call 141;refine C.o.mono ?_;rintro e w4⟨⟨v4,rfl,rfl⟩,h4,o4⟩;have F4a:=zH (F3.o.call h4 o4))
 go_end0
 rw[HR.o];exact(F4a.o.rebase (Oth2.refl P I w)).ret { Itm.new a with kind:=kind,name:=n } IS.nil rfl (Stays.all fun W=>{ ItV.nil W a with name:=hn })
theorem query_any{P I k:Nat}{G:Hd}{p:Lfc.PE}(a:Nat)(w:World)(h:ItF w w P I G p k (itCells (Itm.new a) IS.nil))(hk:k<=p.toks.length)(ok:POk p) :
  Calls Tryz.prog 137 #[.pointer (some ⟨P,0,none⟩),.pointer (some ⟨I,0,none⟩)] w (ItRes P I G p w (p.queryP (Itm.new a) k)):=by
 have hlen:=ok.len;have hP:=h.pw.lt;have hI:=h.lt;have OK:=zH ok;have F0:=zH h;have HPI:=zJ hP hI;obtain⟨M,hm⟩:∃M,p.queryP (Itm.new a) k=M:=⟨_,rfl⟩;rw[hm];have HR:=zH hm.symm;unfold Lfc.PE.queryP at HR;clear h ok hm;go_enter Tryz.func137,Tryz.ntmps137;have FR:=fair_number p k 0 1000;rcases Lfc.PR.cases FR.1 with⟨cc,aa,hr⟩ | ⟨c,k1,hr⟩
 ·have C:=zH (number_any 0 1000 w F0.o.pw (by omega) OK.o);rw[hr] at C;have hm:=HR.o;rw[hr,Lfc.PR.then_errE] at hm;have HM:=zH hm;clear hr FR hm;go_wp2_with (go_at_call 180;refine C.o.mono ?_;rintro e w1⟨rfl,o1⟩);rw[HM.o];exact⟨rfl,rfl,(Oth2.refl P I w).trans (F0.o.oth.trans (Oth2.left o1))⟩
 have C:=zH (number_any 0 1000 w F0.o.pw (by omega) OK.o);rw[hr] at C;have hm:=HR.o;rw[hr,Lfc.PR.then_okE] at hm;have HR:=zH hm;obtain⟨hk1a,hk1b⟩:=FR.2.2 _ _ hr;have HE1:=zH hr;clear hr FR hm;go_upto_region 1 with(go_at_call 180;refine C.o.mono ?_;rintro e w1⟨⟨v1,rfl,rfl⟩,h1,o1⟩;have F1a:=zH (F0.o.call h1 o1);obtain⟨s2,u2,e2,y2,z2,F2⟩:=F1a.o.set 0 (zI 13) (by decide);obtain⟨s3,u3,e3,y3,z3,F3⟩:=F2.o.set 21 (zI c) (by decide));have FR:=fair_expr p k1 (by omega);rcases Lfc.PR.cases FR.1 with⟨cc,aa,hr⟩ | ⟨t4,k4,hr⟩
 ·have C:=zH (expr_any p OK.o P k1 G s3 (by omega) F3.o.pw);rw[hr] at C;have hm:=HR.o;rw[hr,Lfc.PR.then_errE] at hm;have HM:=zH hm;clear hr FR hm;go_wp2_with (go_at_call 35;refine C.o.mono ?_;rintro e w4⟨rfl,o4⟩);rw[HM.o];exact⟨rfl,rfl,(Oth2.refl P I w).trans (F3.o.oth.trans (Oth2.left o4))⟩
 have C:=zH (expr_any p OK.o P k1 G s3 (by omega) F3.o.pw);rw[hr] at C;have hm:=HR.o;rw[hr,Lfc.PR.then_okE] at hm;have HR:=zH hm;obtain⟨hk4a,hk4b⟩:=FR.2.2 _ _ hr;have HE4:=zH hr;clear hr FR hm;go_upto_region 2 with(go_at_call 35;refine C.o.mono ?_;rintro e w4⟨⟨v4,rfl,hv⟩,h4,o4⟩;have F4a:=zH (F3.o.call h4 o4);obtain⟨k5,n5,p5,us5,A5,c5,ht5,rfl,hp5⟩:=TreeVP.parts4 hv;obtain⟨wb4,hwb4,bb4,T4⟩:=expr_one 46 (zR (Oth2.refl P I w).size F3.o.oth.size) o4.size hp5;have F4b:=zH (F4a.o.below bb4).again;have OT4:=zH ((Oth2.refl P I w).trans (F4a.o.below bb4).oth);obtain⟨s5,u5,e5,y5,z5,F5⟩:=F4b.o.set 3 (.slice (some ⟨w4.heap.size,0,none⟩) 1 1) (by decide));clear ht5 hp5 hv;have FR:=fair_punct p k4 [46];rcases Lfc.PR.cases FR.1 with⟨cc,aa,hr⟩ | ⟨u,k6,hr⟩
 ·have C:=zH (punct_any [46] s5 F5.o.pw (by omega) OK.o);rw[hr] at C;have hm:=HR.o;rw[hr,Lfc.PR.then_errE] at hm;have HM:=zH hm;clear hr FR hm;go_wp2_with (go_at_call 141;refine C.o.mono ?_;rintro e w6⟨rfl,o6⟩);rw[HM.o];exact⟨rfl,rfl,OT4.o.trans (F5.o.oth.trans (Oth2.left o6))⟩
 have C:=zH (punct_any [46] s5 F5.o.pw (by omega) OK.o);rw[hr] at C;have hm:=HR.o;rw[hr,Lfc.PR.then_okE] at hm;have HR:=zH hm;obtain⟨hk6a,hk6b⟩:=FR.2.2 _ _ hr;have HE6:=zH hr;clear hr FR hm;go_wp2_with (go_at_call 141;refine C.o.mono ?_;rintro e w6⟨⟨v6,rfl,rfl⟩,h6,o6⟩;have F6a:=zH (F5.o.call h6 o6))
 go_end0
 rw[HR.o];obtain⟨hPx,hIx⟩:=HPI.o;exact(F6a.o.rebase OT4.o).ret { Itm.new a with kind:=13,count:=c,type:=[t4] } { IS.nil with ty:=(some ⟨w4.heap.size,0,none⟩,1) } rfl ((T4.o.oth2 F6a.o.oth hPx hIx).imp fun W h=>{ ItV.nil W a with ty:=⟨h,zN _⟩ })
theorem decl_any{P I k:Nat}{G:Hd}{p:Lfc.PE}(a:Nat)(w:World)(h:ItF w w P I G p k (itCells (Itm.new a) IS.nil))(hk:k<=p.toks.length)(ok:POk p) :
  Calls Tryz.prog 73 #[.pointer (some ⟨P,0,none⟩),.pointer (some ⟨I,0,none⟩)] w (ItRes P I G p w (p.declP (Itm.new a) k)):=by
 have hlen:=ok.len;have hP:=h.pw.lt;have hI:=h.lt;have OK:=zH ok;have F0:=zH h;have HPI:=zJ hP hI;obtain⟨M,hm⟩:∃M,p.declP (Itm.new a) k=M:=⟨_,rfl⟩;rw[hm];have HR:=zH hm.symm;unfold Lfc.PE.declP at HR;clear h ok hm;go_enter Tryz.func73,Tryz.ntmps73;have FR:=fair_name p k;rcases Lfc.PR.cases FR.1 with⟨cc,aa,hr⟩ | ⟨n,k1,hr⟩
 ·have C:=zH (name_at w F0.o.pw (by omega) OK.o);rw[hr] at C;have hm:=HR.o;rw[hr,Lfc.PR.then_errE] at hm;have HM:=zH hm;clear hr FR hm;go_wp2_with (go_at_call 138;refine C.o.mono ?_;rintro e w1⟨rfl,o1⟩);rw[HM.o];exact⟨rfl,rfl,(Oth2.refl P I w).trans (F0.o.oth.trans (Oth2.left o1))⟩
 have C:=zH (name_at w F0.o.pw (by omega) OK.o);rw[hr] at C;have hm:=HR.o;rw[hr,Lfc.PR.then_okE] at hm;have HR:=zH hm;obtain⟨hk1a,hk1b⟩:=FR.2.2 _ _ hr;have HE1:=zH hr;clear hr FR hm;go_upto_region 1 with(go_at_call 138;refine C.o.mono ?_;rintro e w1⟨⟨v1,rfl,rfl⟩,h1,o1⟩;have F1a:=zH (F0.o.call h1 o1);obtain⟨s2,u2,e2,y2,z2,F2⟩:=F1a.o.set 0 (zI 2) (by decide);obtain⟨s3,u3,e3,y3,z3,F3⟩:=F2.o.set 2 (S n) (by decide));have HN:=zH (name_le OK.o HE1.o);cases hz:p.is k1 2 [58]
 ·skip
  have hm:=HR.o;rw[if_neg (by rw[hz];decide)] at hm;have HR:=zH hm;clear hm;have C:=zH (take_any 2 [58] s3 F3.o.pw (by omega) OK.o);simp only[hz,if_true,Bool.false_eq_true,if_false] at C;go_upto_region 6 with(go_at_call 139;refine C.o.mono ?_;rintro e w4⟨rfl,h4,o4⟩;have F4a:=zH (F3.o.call h4 o4));clear hz;have FR:=fair_punct p k1 [61];rcases Lfc.PR.cases FR.1 with⟨cc,aa,hr⟩ | ⟨u,k5,hr⟩
  ·have C:=zH (punct_any [61] w4 F4a.o.pw (by omega) OK.o);rw[hr] at C;have hm:=HR.o;rw[hr,Lfc.PR.then_errE] at hm;have HM:=zH hm;clear hr FR hm;go_wp2_with (go_at_call 141;refine C.o.mono ?_;rintro e w5⟨rfl,o5⟩);rw[HM.o];exact⟨rfl,rfl,(Oth2.refl P I w).trans (F4a.o.oth.trans (Oth2.left o5))⟩
  have C:=zH (punct_any [61] w4 F4a.o.pw (by omega) OK.o);rw[hr] at C;have hm:=HR.o;rw[hr,Lfc.PR.then_okE] at hm;have HR:=zH hm;obtain⟨hk5a,hk5b⟩:=FR.2.2 _ _ hr;have HE5:=zH hr;clear hr FR hm;go_upto_region 7 with(go_at_call 141;refine C.o.mono ?_;rintro e w5⟨⟨v5,rfl,rfl⟩,h5,o5⟩;have F5a:=zH (F4a.o.call h5 o5));have FR:=fair_expr p k5 (by omega);rcases Lfc.PR.cases FR.1 with⟨cc,aa,hr⟩ | ⟨t6,k6,hr⟩
  ·have C:=zH (expr_any p OK.o P k5 G w5 (by omega) F5a.o.pw);rw[hr] at C;have hm:=HR.o;rw[hr,Lfc.PR.then_errE] at hm;have HM:=zH hm;clear hr FR hm;go_wp2_with (go_at_call 35;refine C.o.mono ?_;rintro e w6⟨rfl,o6⟩);rw[HM.o];exact⟨rfl,rfl,(Oth2.refl P I w).trans (F5a.o.oth.trans (Oth2.left o6))⟩
  have C:=zH (expr_any p OK.o P k5 G w5 (by omega) F5a.o.pw);rw[hr] at C;have hm:=HR.o;rw[hr,Lfc.PR.then_okE] at hm;have HR:=zH hm;obtain⟨hk6a,hk6b⟩:=FR.2.2 _ _ hr;have HE6:=zH hr;clear hr FR hm;go_upto_region 8 with(go_at_call 35;refine C.o.mono ?_;rintro e w6⟨⟨v6,rfl,hv⟩,h6,o6⟩;have F6a:=zH (F5a.o.call h6 o6);obtain⟨k5,n5,p5,us5,A5,c5,ht5,rfl,hp5⟩:=TreeVP.parts4 hv;obtain⟨wb6,hwb6,bb6,T6⟩:=expr_one 46 (zR (Oth2.refl P I w).size F5a.o.oth.size) o6.size hp5;have F6b:=zH (F6a.o.below bb6).again;have OT6:=zH ((Oth2.refl P I w).trans (F6a.o.below bb6).oth);obtain⟨s7,u7,e7,y7,z7,F7⟩:=F6b.o.set 4 (.slice (some ⟨w6.heap.size,0,none⟩) 1 1) (by decide));clear ht5 hp5 hv;have FR:=fair_punct p k6 [46];rcases Lfc.PR.cases FR.1 with⟨cc,aa,hr⟩ | ⟨u',k8,hr⟩
  ·have C:=zH (punct_any [46] s7 F7.o.pw (by omega) OK.o);rw[hr] at C;have hm:=HR.o;rw[hr,Lfc.PR.then_errE] at hm;have HM:=zH hm;clear hr FR hm;go_wp2_with (go_at_call 141;refine C.o.mono ?_;rintro e w8⟨rfl,o8⟩);rw[HM.o];exact⟨rfl,rfl,OT6.o.trans (F7.o.oth.trans (Oth2.left o8))⟩
  have C:=zH (punct_any [46] s7 F7.o.pw (by omega) OK.o);rw[hr] at C;have hm:=HR.o;rw[hr,Lfc.PR.then_okE] at hm;have HR:=zH hm;obtain⟨hk8a,hk8b⟩:=FR.2.2 _ _ hr;have HE8:=zH hr;clear hr FR hm;go_wp2_with (go_at_call 141;refine C.o.mono ?_;rintro e w8⟨⟨v8,rfl,rfl⟩,h8,o8⟩;have F8a:=zH (F7.o.call h8 o8))
  go_end0
  rw[HR.o];obtain⟨hPx,hIx⟩:=HPI.o;exact(F8a.o.rebase OT6.o).ret { Itm.new a with kind:=2,name:=n,value:=[t6] } { IS.nil with va:=(some ⟨w6.heap.size,0,none⟩,1) } rfl ((T6.o.oth2 F8a.o.oth hPx hIx).imp fun W h=>{ ItV.nil W a with name:=HN.o,va:=⟨h,zN _⟩ })
 skip
 have hm:=HR.o;rw[if_pos hz] at hm;have HR:=zH hm;clear hm;have C:=zH (take_any 2 [58] s3 F3.o.pw (by omega) OK.o);simp only[hz,if_true,Bool.false_eq_true,if_false] at C;have hk9a:k1+1<=p.toks.length:=is_ltk (by decide) hz;go_upto_region 2 with(go_at_call 139;refine C.o.mono ?_;rintro e w9⟨rfl,h9,o9⟩;have F9a:=zH (F3.o.call h9 o9));clear hz;have FR:=fair_expr p (k1+1) (by omega);rcases Lfc.PR.cases FR.1 with⟨cc,aa,hr⟩ | ⟨t10,k10,hr⟩
 ·have C:=zH (expr_any p OK.o P (k1+1) G w9 (by omega) F9a.o.pw);rw[hr] at C;have hm:=HR.o;rw[hr,Lfc.PR.then_errE] at hm;have HM:=zH hm;clear hr FR hm;go_wp2_with (go_at_call 35;refine C.o.mono ?_;rintro e w10⟨rfl,o10⟩);rw[HM.o];exact⟨rfl,rfl,(Oth2.refl P I w).trans (F9a.o.oth.trans (Oth2.left o10))⟩
 have C:=zH (expr_any p OK.o P (k1+1) G w9 (by omega) F9a.o.pw);rw[hr] at C;have hm:=HR.o;rw[hr,Lfc.PR.then_okE] at hm;have HR:=zH hm;obtain⟨hk10a,hk10b⟩:=FR.2.2 _ _ hr;have HE10:=zH hr;clear hr FR hm;go_upto_region 3 with(go_at_call 35;refine C.o.mono ?_;rintro e w10⟨⟨v10,rfl,hv⟩,h10,o10⟩;have F10a:=zH (F9a.o.call h10 o10);obtain⟨k5,n5,p5,us5,A5,c5,ht5,rfl,hp5⟩:=TreeVP.parts4 hv;obtain⟨wb10,hwb10,bb10,T10⟩:=expr_one 46 (zR (Oth2.refl P I w).size F9a.o.oth.size) o10.size hp5;have F10b:=zH (F10a.o.below bb10).again;have OT10:=zH ((Oth2.refl P I w).trans (F10a.o.below bb10).oth);obtain⟨s11,u11,e11,y11,z11,F11⟩:=F10b.o.set 3 (.slice (some ⟨w10.heap.size,0,none⟩) 1 1) (by decide));clear ht5 hp5 hv;cases hz:p.is k10 2 [61]
 ·skip
  have hm:=HR.o;rw[if_neg (by rw[hz];decide)] at hm;have HR:=zH hm;clear hm;have C:=zH (is_any 2 [61] s11 F11.o.pw (by omega) OK.o);rw[hz] at C;go_upto_region 4 with(go_at_call 140;refine C.o.mono ?_;rintro e w12⟨rfl,b12⟩;have F12a:=zH (F11.o.below b12));clear hz;obtain⟨s13,u13,e13,y13,z13,F13⟩:=F12a.o.set 0 (zI 1) (by decide);have FR:=fair_punct p k10 [46];rcases Lfc.PR.cases FR.1 with⟨cc,aa,hr⟩ | ⟨u,k14,hr⟩
  ·have C:=zH (punct_any [46] s13 F13.o.pw (by omega) OK.o);rw[hr] at C;have hm:=HR.o;rw[hr,Lfc.PR.then_errE] at hm;have HM:=zH hm;clear hr FR hm;go_wp2_with (go_at_call 141;refine C.o.mono ?_;rintro e w14⟨rfl,o14⟩);rw[HM.o];exact⟨rfl,rfl,OT10.o.trans (F13.o.oth.trans (Oth2.left o14))⟩
  have C:=zH (punct_any [46] s13 F13.o.pw (by omega) OK.o);rw[hr] at C;have hm:=HR.o;rw[hr,Lfc.PR.then_okE] at hm;have HR:=zH hm;obtain⟨hk14a,hk14b⟩:=FR.2.2 _ _ hr;have HE14:=zH hr;clear hr FR hm;go_wp2_with (go_at_call 141;refine C.o.mono ?_;rintro e w14⟨⟨v14,rfl,rfl⟩,h14,o14⟩;have F14a:=zH (F13.o.call h14 o14))
  go_end0
  rw[HR.o];obtain⟨hPx,hIx⟩:=HPI.o;exact(F14a.o.rebase OT10.o).ret { Itm.new a with kind:=1,name:=n,type:=[t10] } { IS.nil with ty:=(some ⟨w10.heap.size,0,none⟩,1) } rfl ((T10.o.oth2 F14a.o.oth hPx hIx).imp fun W h=>{ ItV.nil W a with name:=HN.o,ty:=⟨h,zN _⟩ })
 skip
 have hm:=HR.o;rw[if_pos hz] at hm;have HR:=zH hm;clear hm;have C:=zH (is_any 2 [61] s11 F11.o.pw (by omega) OK.o);rw[hz] at C;go_upto_region 6 with(go_at_call 140;refine C.o.mono ?_;rintro e w15⟨rfl,b15⟩;have F15a:=zH (F11.o.below b15));clear hz;have FR:=fair_punct p k10 [61];rcases Lfc.PR.cases FR.1 with⟨cc,aa,hr⟩ | ⟨u,k16,hr⟩
 ·have C:=zH (punct_any [61] w15 F15a.o.pw (by omega) OK.o);rw[hr] at C;have hm:=HR.o;rw[hr,Lfc.PR.then_errE] at hm;have HM:=zH hm;clear hr FR hm;go_wp2_with (go_at_call 141;refine C.o.mono ?_;rintro e w16⟨rfl,o16⟩);rw[HM.o];exact⟨rfl,rfl,OT10.o.trans (F15a.o.oth.trans (Oth2.left o16))⟩
 have C:=zH (punct_any [61] w15 F15a.o.pw (by omega) OK.o);rw[hr] at C;have hm:=HR.o;rw[hr,Lfc.PR.then_okE] at hm;have HR:=zH hm;obtain⟨hk16a,hk16b⟩:=FR.2.2 _ _ hr;have HE16:=zH hr;clear hr FR hm;go_upto_region 7 with(go_at_call 141;refine C.o.mono ?_;rintro e w16⟨⟨v16,rfl,rfl⟩,h16,o16⟩;have F16a:=zH (F15a.o.call h16 o16));have FR:=fair_expr p k16 (by omega);rcases Lfc.PR.cases FR.1 with⟨cc,aa,hr⟩ | ⟨t17,k17,hr⟩
 ·have C:=zH (expr_any p OK.o P k16 G w16 (by omega) F16a.o.pw);rw[hr] at C;have hm:=HR.o;rw[hr,Lfc.PR.then_errE] at hm;have HM:=zH hm;clear hr FR hm;go_wp2_with (go_at_call 35;refine C.o.mono ?_;rintro e w17⟨rfl,o17⟩);rw[HM.o];exact⟨rfl,rfl,OT10.o.trans (F16a.o.oth.trans (Oth2.left o17))⟩
 have C:=zH (expr_any p OK.o P k16 G w16 (by omega) F16a.o.pw);rw[hr] at C;have hm:=HR.o;rw[hr,Lfc.PR.then_okE] at hm;have HR:=zH hm;obtain⟨hk17a,hk17b⟩:=FR.2.2 _ _ hr;have HE17:=zH hr;clear hr FR hm;go_upto_region 8 with(go_at_call 35;refine C.o.mono ?_;rintro e w17⟨⟨v17,rfl,hv⟩,h17,o17⟩;have F17a:=zH (F16a.o.call h17 o17);obtain⟨k5,n5,p5,us5,A5,c5,ht5,rfl,hp5⟩:=TreeVP.parts4 hv;obtain⟨wb17,hwb17,bb17,T17⟩:=expr_one 46 (zR OT10.o.size F16a.o.oth.size) o17.size hp5;have F17b:=zH (F17a.o.below bb17).again;have OT17:=zH (OT10.o.trans (F17a.o.below bb17).oth);have T17m0:=zH (T10.o.oth2 (F17a.o.below bb17).oth HPI.o.1 HPI.o.2);obtain⟨s18,u18,e18,y18,z18,F18⟩:=F17b.o.set 4 (.slice (some ⟨w17.heap.size,0,none⟩) 1 1) (by decide));clear ht5 hp5 hv;have FR:=fair_punct p k17 [46];rcases Lfc.PR.cases FR.1 with⟨cc,aa,hr⟩ | ⟨u',k19,hr⟩
 ·have C:=zH (punct_any [46] s18 F18.o.pw (by omega) OK.o);rw[hr] at C;have hm:=HR.o;rw[hr,Lfc.PR.then_errE] at hm;have HM:=zH hm;clear hr FR hm;go_wp2_with (go_at_call 141;refine C.o.mono ?_;rintro e w19⟨rfl,o19⟩);rw[HM.o];exact⟨rfl,rfl,OT17.o.trans (F18.o.oth.trans (Oth2.left o19))⟩
 have C:=zH (punct_any [46] s18 F18.o.pw (by omega) OK.o);rw[hr] at C;have hm:=HR.o;rw[hr,Lfc.PR.then_okE] at hm;have HR:=zH hm;obtain⟨hk19a,hk19b⟩:=FR.2.2 _ _ hr;have HE19:=zH hr;clear hr FR hm;go_wp2_with (go_at_call 141;refine C.o.mono ?_;rintro e w19⟨⟨v19,rfl,rfl⟩,h19,o19⟩;have F19a:=zH (F18.o.call h19 o19))
 go_end0
 rw[HR.o];obtain⟨hPx,hIx⟩:=HPI.o;exact(F19a.o.rebase OT17.o).ret { Itm.new a with kind:=2,name:=n,type:=[t10],value:=[t17] } { IS.nil with ty:=(some ⟨w10.heap.size,0,none⟩,1),va:=(some ⟨w17.heap.size,0,none⟩,1) } rfl (((T17m0.o.oth2 F19a.o.oth hPx hIx).and (T17.o.oth2 F19a.o.oth hPx hIx)).imp fun W ⟨h,h'⟩=>{ ItV.nil W a with name:=HN.o,ty:=⟨h,zN _⟩,va:=⟨h',zN _⟩ })
theorem opItem_any{P I k:Nat}{G:Hd}{p:Lfc.PE}(a:Nat)(fix:Int)(w:World)(h:ItF w w P I G p k (itCells (Itm.new a) IS.nil))(hk:k<=p.toks.length)(ok:POk p) :
  Calls Tryz.prog 175 #[.pointer (some ⟨P,0,none⟩),.pointer (some ⟨I,0,none⟩),zI fix] w (ItRes P I G p w (p.opP (Itm.new a) fix k)):=by
 have hlen:=ok.len;have hP:=h.pw.lt;have hI:=h.lt;have OK:=zH ok;have F0:=zH h;have HPI:=zJ hP hI;obtain⟨M,hm⟩:∃M,p.opP (Itm.new a) fix k=M:=⟨_,rfl⟩;rw[hm];have HR:=zH hm.symm;unfold Lfc.PE.opP at HR;have CP:Hid (∀W k,k<=p.toks.length->PW W P G p k->Calls Tryz.prog 63 #[.pointer (some ⟨P,0,none⟩)] W fun e w'=>e=.returned (.agg #[zI (p.pk k).kind,S (p.pk k).text,zI ((p.pk k).pos:Int)])/\zb W w'):=zH fun W k hk hW=>peek_any W hW hk ok;have hf2:=tok_f2;clear h ok hm;obtain⟨s1,u1,e1,y1,z1,F1⟩:=F0.o.set 0 (zI 3) (by decide);obtain⟨s2,u2,e2,y2,z2,F2⟩:=F1.o.set 6 (zI fix) (by decide);go_enter Tryz.func175,Tryz.ntmps175;go_upto_region 1 with fail;have FR:=fair_number p k 0 99;rcases Lfc.PR.cases FR.1 with⟨cc,aa,hr⟩ | ⟨c,k3,hr⟩
 ·have C:=zH (number_any 0 99 s2 F2.o.pw (by omega) OK.o);rw[hr] at C;have hm:=HR.o;rw[hr,Lfc.PR.then_errE] at hm;have HM:=zH hm;clear hr FR hm;go_wp2_with (go_at_call 180;refine C.o.mono ?_;rintro e w3⟨rfl,o3⟩);rw[HM.o];exact⟨rfl,rfl,(Oth2.refl P I w).trans (F2.o.oth.trans (Oth2.left o3))⟩
 have C:=zH (number_any 0 99 s2 F2.o.pw (by omega) OK.o);rw[hr] at C;have hm:=HR.o;rw[hr,Lfc.PR.then_okE] at hm;have HR:=zH hm;obtain⟨hk3a,hk3b⟩:=FR.2.2 _ _ hr;have HE3:=zH hr;clear hr FR hm;go_upto_region 2 with(go_at_call 180;refine C.o.mono ?_;rintro e w3⟨⟨v3,rfl,rfl⟩,h3,o3⟩;have F3a:=zH (F2.o.call h3 o3);obtain⟨s4,u4,e4,y4,z4,F4⟩:=F3a.o.set 7 (zI c) (by decide));go_upto_region 3 with(go_at_call 63;refine(CP.o _ k3 (by omega) F4.o.pw).mono ?_;rintro e w5⟨rfl,b5⟩;have F5:=zH (F4.o.below b5));generalize hat:(p.pk k3).pos=at_ at *;have HAT:=zH hat;clear hat;have FR:=fair_name p k3;rcases Lfc.PR.cases FR.1 with⟨cc,aa,hr⟩ | ⟨n,k6,hr⟩
 ·have C:=zH (name_at w5 F5.o.pw (by omega) OK.o);rw[hr] at C;have hm:=HR.o;rw[hr,Lfc.PR.then_errE] at hm;have HM:=zH hm;clear hr FR hm;go_wp2_with (go_at_call 138;refine C.o.mono ?_;rintro e w6⟨rfl,o6⟩);rw[HM.o];exact⟨rfl,rfl,(Oth2.refl P I w).trans (F5.o.oth.trans (Oth2.left o6))⟩
 have C:=zH (name_at w5 F5.o.pw (by omega) OK.o);rw[hr] at C;have hm:=HR.o;rw[hr,Lfc.PR.then_okE] at hm;have HR:=zH hm;obtain⟨hk6a,hk6b⟩:=FR.2.2 _ _ hr;have HE6:=zH hr;clear hr FR hm;go_upto_region 4 with(go_at_call 138;refine C.o.mono ?_;rintro e w6⟨⟨v6,rfl,rfl⟩,h6,o6⟩;have F6a:=zH (F5.o.call h6 o6);obtain⟨s7,u7,e7,y7,z7,F7⟩:=F6a.o.set 5 (S n) (by decide));have HN:=zH (name_le OK.o HE6.o);have FR:=fair_punct p k6 [46];rcases Lfc.PR.cases FR.1 with⟨cc,aa,hr⟩ | ⟨u,k8,hr⟩
 ·have C:=zH (punct_any [46] s7 F7.o.pw (by omega) OK.o);rw[hr] at C;have hm:=HR.o;rw[hr,Lfc.PR.then_errE] at hm;have HM:=zH hm;clear hr FR hm;go_wp2_with (go_at_call 141;refine C.o.mono ?_;rintro e w8⟨rfl,o8⟩);rw[HM.o];exact⟨rfl,rfl,(Oth2.refl P I w).trans (F7.o.oth.trans (Oth2.left o8))⟩
 have C:=zH (punct_any [46] s7 F7.o.pw (by omega) OK.o);rw[hr] at C;have hm:=HR.o;rw[hr,Lfc.PR.then_okE] at hm;have HR:=zH hm;obtain⟨hk8a,hk8b⟩:=FR.2.2 _ _ hr;have HE8:=zH hr;clear hr FR hm;go_upto_region 5 with(go_at_call 141;refine C.o.mono ?_;rintro e w8⟨⟨v8,rfl,rfl⟩,h8,o8⟩;have F8a:=zH (F7.o.call h8 o8));have G0:zb w8 w8.drew:=(zB _ _).drew;have AA:∀X Y:World,zb w8 X->zb X Y->zb w8 Y:=fun X Y h k=>h.trans (k.mono h.size);have SC:Hid (∀W,zb w8 W->zc W P 3 (.slice G.B p.ops.length G.d)/\zc W I 5 (S n)/\zc W I 6 (zI fix)/\zc W I 7 (zI c)):=zH fun W hb=>⟨(F8a.o.below hb).pw.cells.2.2.2.1,zC (F8a.o.below hb).it 5,zC (F8a.o.below hb).it 6,zC (F8a.o.below hb).it 7⟩;have CA:Hid (∀W,zb w8 W->Calls Tryz.prog 49 #[.slice G.B p.ops.length G.d,.agg #[S n,zI fix,zI c]] W (AddPostN W p.ops ⟨n,fix,c⟩)):=zH fun W hb=>opAdd_new p.ops ⟨n,fix,c⟩ G.B G.d W OK.o.ops HN.o (F8a.o.below hb).pw.cells.2.2.2.2.2.2.1;obtain⟨l',e',hadd⟩:∃l' e',added p.ops ⟨n,fix,c⟩=(l',e'):=⟨_,_,rfl⟩;have hm:=HR.o;unfold AddPostN at CA;rw[hadd] at hm CA;simp only at hm CA;have HR:=zH hm;clear hm hadd;obtain⟨x3,i5,i6,i7⟩:=SC.o _ G0;go_region_held3 (fun W=>W.cell? ⟨P,3,none⟩=some (.slice G.B p.ops.length G.d)/\W.cell? ⟨I,5,none⟩=some (S n)/\W.cell? ⟨I,6,none⟩=some (zI fix)/\W.cell? ⟨I,7,none⟩=some (zI c))
  (first | exact SC.o _ G0 | (refine SC.o _ ?_;assumption))
  (first
   |(go_at_call 49;((with_reducible refine(CA.o _ ?_).mono ?_));assumption;rintro e w9⟨⟨A',c',rfl,ho,hnew⟩,b'⟩;have b9:=AA _ _ (by assumption) b';have HO:=zH ho;have HNW:=zH hnew;clear ho hnew))
 have F9:=zH (F8a.o.below b9);clear x3 i5 i6 i7;by_cases he:e'=0
 ·subst he;rw[if_neg (by simp)] at HR;have hpw:=F9.o.pw.ops (c:=c') HO.o;have hst:w9.frozen? ⟨P,3,none⟩=false:=F9.o.pw.cells.2.2.2.2.1 3;have hx3:zc w9 P 3 (.slice G.B p.ops.length G.d):=F9.o.pw.cells.2.2.2.1;have HPW:=zH hpw;clear hpw;go_wp2_with fail
  go_end0
  rw[HR.o];have oP:Oth P w9 (w9.setCell ⟨P,3,none⟩ (.slice A' l'.length c')):=Oth.set _ _;exact⟨rfl,⟨_,HPW.o,fun J hJ hG=>⟨hG.1,fun _ a e=>by have h1:=HNW.o a e;have h2:=F8a.o.oth.size;have h3:w8.heap.size<=w8.drew.heap.size:=zN _;omega⟩⟩,⟨IS.nil,oP.heap F9.o.it F9.o.ne,Stays.all fun W=>{ ItV.nil W a with opn:=HN.o }⟩,F9.o.oth.trans (Oth2.left oP)⟩
 rw[if_pos he] at HR;have he2:(e' != 0)=true:=by simpa using he
 clear he;go_wp2_with (go_at_call 66;refine(pfail_any _ _ _).mono ?_;rintro e w10⟨rfl,rfl⟩);rw[HR.o];exact⟨rfl,rfl,F9.o.oth⟩
theorem prefix_any{P I k:Nat}{G:Hd}{p:Lfc.PE}(a:Nat)(w:World)(h:ItF w w P I G p k (itCells (Itm.new a) IS.nil))(hk:k<=p.toks.length)(ok:POk p) :
  Calls Tryz.prog 126 #[.pointer (some ⟨P,0,none⟩),.pointer (some ⟨I,0,none⟩)] w (ItRes P I G p w (p.opP (Itm.new a) 1 k)):=by
 have hlen:=ok.len;have hP:=h.pw.lt;have hI:=h.lt;have OK:=zH ok;have F0:=zH h;have HPI:=zJ hP hI;obtain⟨M,hm⟩:∃M,p.opP (Itm.new a) 1 k=M:=⟨_,rfl⟩;rw[hm];have HR:=zH hm.symm;clear h ok hm;have FR:=fair_op p (Itm.new a) 1 k;have CC:=zH (opItem_any a 1 w F0.o (by omega) OK.o);rcases Lfc.PR.cases FR.1 with⟨cc,aa,hr⟩ | ⟨x,k',hr⟩
 ·rw[hr] at CC;have HM:=zH (HR.o.trans hr);clear hr FR;go_enter Tryz.func126,Tryz.ntmps126;go_wp2_with (go_at_call 175;refine CC.o.mono ?_;rintro e w1⟨rfl,HH⟩);rw[HM.o];exact⟨rfl,rfl,HH⟩
 rw[hr] at CC;have HM:=zH (HR.o.trans hr);clear hr FR;go_enter Tryz.func126,Tryz.ntmps126;go_wp2_with (go_at_call 175;refine CC.o.mono ?_;rintro e w1⟨rfl,HH'⟩;have HH:=zH HH';clear HH')
 go_end0
 rw[HM.o];exact⟨rfl,HH.o⟩
theorem postfix_any{P I k:Nat}{G:Hd}{p:Lfc.PE}(a:Nat)(w:World)(h:ItF w w P I G p k (itCells (Itm.new a) IS.nil))(hk:k<=p.toks.length)(ok:POk p) :
  Calls Tryz.prog 127 #[.pointer (some ⟨P,0,none⟩),.pointer (some ⟨I,0,none⟩)] w (ItRes P I G p w (p.opP (Itm.new a) 2 k)):=by
 have hlen:=ok.len;have hP:=h.pw.lt;have hI:=h.lt;have OK:=zH ok;have F0:=zH h;have HPI:=zJ hP hI;obtain⟨M,hm⟩:∃M,p.opP (Itm.new a) 2 k=M:=⟨_,rfl⟩;rw[hm];have HR:=zH hm.symm;clear h ok hm;have FR:=fair_op p (Itm.new a) 2 k;have CC:=zH (opItem_any a 2 w F0.o (by omega) OK.o);rcases Lfc.PR.cases FR.1 with⟨cc,aa,hr⟩ | ⟨x,k',hr⟩
 ·rw[hr] at CC;have HM:=zH (HR.o.trans hr);clear hr FR;go_enter Tryz.func127,Tryz.ntmps127;go_wp2_with (go_at_call 175;refine CC.o.mono ?_;rintro e w1⟨rfl,HH⟩);rw[HM.o];exact⟨rfl,rfl,HH⟩
 rw[hr] at CC;have HM:=zH (HR.o.trans hr);clear hr FR;go_enter Tryz.func127,Tryz.ntmps127;go_wp2_with (go_at_call 175;refine CC.o.mono ?_;rintro e w1⟨rfl,HH'⟩;have HH:=zH HH';clear HH')
 go_end0
 rw[HM.o];exact⟨rfl,HH.o⟩
theorem covers_any{P I k:Nat}{G:Hd}{p:Lfc.PE}(a:Nat)(w:World)(h:ItF w w P I G p k (itCells (Itm.new a) IS.nil))(hk:k<=p.toks.length)(ok:POk p) :
  Calls Tryz.prog 131 #[.pointer (some ⟨P,0,none⟩),.pointer (some ⟨I,0,none⟩)] w (ItRes P I G p w (p.namedP 7 (Itm.new a) k)):=by
 have hlen:=ok.len;have hP:=h.pw.lt;have hI:=h.lt;have OK:=zH ok;have F0:=zH h;have HPI:=zJ hP hI;obtain⟨M,hm⟩:∃M,p.namedP 7 (Itm.new a) k=M:=⟨_,rfl⟩;rw[hm];have HR:=zH hm.symm;clear h ok hm;have FR:=fair_named p 7 (Itm.new a) k;have CC:=zH (named_any a 7 w F0.o (by omega) OK.o);rcases Lfc.PR.cases FR.1 with⟨cc,aa,hr⟩ | ⟨x,k',hr⟩
 ·rw[hr] at CC;have HM:=zH (HR.o.trans hr);clear hr FR;go_enter Tryz.func131,Tryz.ntmps131;go_wp2_with (go_at_call 177;refine CC.o.mono ?_;rintro e w1⟨rfl,HH⟩);rw[HM.o];exact⟨rfl,rfl,HH⟩
 rw[hr] at CC;have HM:=zH (HR.o.trans hr);clear hr FR;go_enter Tryz.func131,Tryz.ntmps131;go_wp2_with (go_at_call 177;refine CC.o.mono ?_;rintro e w1⟨rfl,HH'⟩;have HH:=zH HH';clear HH')
 go_end0
 rw[HM.o];exact⟨rfl,HH.o⟩
theorem uniqueI_any{P I k:Nat}{G:Hd}{p:Lfc.PE}(a:Nat)(w:World)(h:ItF w w P I G p k (itCells (Itm.new a) IS.nil))(hk:k<=p.toks.length)(ok:POk p) :
  Calls Tryz.prog 132 #[.pointer (some ⟨P,0,none⟩),.pointer (some ⟨I,0,none⟩)] w (ItRes P I G p w (p.namedP 8 (Itm.new a) k)):=by
 have hlen:=ok.len;have hP:=h.pw.lt;have hI:=h.lt;have OK:=zH ok;have F0:=zH h;have HPI:=zJ hP hI;obtain⟨M,hm⟩:∃M,p.namedP 8 (Itm.new a) k=M:=⟨_,rfl⟩;rw[hm];have HR:=zH hm.symm;clear h ok hm;have FR:=fair_named p 8 (Itm.new a) k;have CC:=zH (named_any a 8 w F0.o (by omega) OK.o);rcases Lfc.PR.cases FR.1 with⟨cc,aa,hr⟩ | ⟨x,k',hr⟩
 ·rw[hr] at CC;have HM:=zH (HR.o.trans hr);clear hr FR;go_enter Tryz.func132,Tryz.ntmps132;go_wp2_with (go_at_call 177;refine CC.o.mono ?_;rintro e w1⟨rfl,HH⟩);rw[HM.o];exact⟨rfl,rfl,HH⟩
 rw[hr] at CC;have HM:=zH (HR.o.trans hr);clear hr FR;go_enter Tryz.func132,Tryz.ntmps132;go_wp2_with (go_at_call 177;refine CC.o.mono ?_;rintro e w1⟨rfl,HH'⟩;have HH:=zH HH';clear HH')
 go_end0
 rw[HM.o];exact⟨rfl,HH.o⟩
theorem strictI_any{P I k:Nat}{G:Hd}{p:Lfc.PE}(a:Nat)(w:World)(h:ItF w w P I G p k (itCells (Itm.new a) IS.nil))(hk:k<=p.toks.length)(ok:POk p) :
  Calls Tryz.prog 133 #[.pointer (some ⟨P,0,none⟩),.pointer (some ⟨I,0,none⟩)] w (ItRes P I G p w (p.namedP 9 (Itm.new a) k)):=by
 have hlen:=ok.len;have hP:=h.pw.lt;have hI:=h.lt;have OK:=zH ok;have F0:=zH h;have HPI:=zJ hP hI;obtain⟨M,hm⟩:∃M,p.namedP 9 (Itm.new a) k=M:=⟨_,rfl⟩;rw[hm];have HR:=zH hm.symm;clear h ok hm;have FR:=fair_named p 9 (Itm.new a) k;have CC:=zH (named_any a 9 w F0.o (by omega) OK.o);rcases Lfc.PR.cases FR.1 with⟨cc,aa,hr⟩ | ⟨x,k',hr⟩
 ·rw[hr] at CC;have HM:=zH (HR.o.trans hr);clear hr FR;go_enter Tryz.func133,Tryz.ntmps133;go_wp2_with (go_at_call 177;refine CC.o.mono ?_;rintro e w1⟨rfl,HH⟩);rw[HM.o];exact⟨rfl,rfl,HH⟩
 rw[hr] at CC;have HM:=zH (HR.o.trans hr);clear hr FR;go_enter Tryz.func133,Tryz.ntmps133;go_wp2_with (go_at_call 177;refine CC.o.mono ?_;rintro e w1⟨rfl,HH'⟩;have HH:=zH HH';clear HH')
 go_end0
 rw[HM.o];exact⟨rfl,HH.o⟩
theorem infix_any{P I k:Nat}{G:Hd}{p:Lfc.PE}(a:Nat)(w:World)(h:ItF w w P I G p k (itCells (Itm.new a) IS.nil))(hk:k<=p.toks.length)(ok:POk p) :
  Calls Tryz.prog 125 #[.pointer (some ⟨P,0,none⟩),.pointer (some ⟨I,0,none⟩)] w (ItRes P I G p w (p.infixP (Itm.new a) k)):=by
 have hlen:=ok.len;have hP:=h.pw.lt;have hI:=h.lt;have OK:=zH ok;have F0:=zH h;have HPI:=zJ hP hI;obtain⟨M,hm⟩:∃M,p.infixP (Itm.new a) k=M:=⟨_,rfl⟩;rw[hm];have HR:=zH hm.symm;unfold Lfc.PE.infixP at HR;clear h ok hm;obtain⟨wa,hwa⟩:∃wa,w.alloc (.cells #[zI 3,zI 4,zI 5] 3)=wa:=⟨_,rfl⟩;have ba:=zG hwa;have qa:=zQ hwa;obtain⟨wb,hwb⟩:∃wb,wa.alloc (.cells #[S [110,111,110,101],S [108,101,102,116],S [114,105,103,104,116]] 9)=wb:=⟨_,rfl⟩;have bb:=zG hwb;have qb:=zQ hwb;have F1:=zH ((F0.o.below ba).below bb);have QA:=zH ((bb.block _ (zL qa)).trans qa);have hwcs:∀j(hj:j<fixes.length),zc wb wa.heap.size (0+j) (S fixes[j]):=fun j hj=>by
  rw[Nat.zero_add];refine(zC qb j).trans ?_;have:j=0\/j=1\/j=2:=by
   have:fixes.length=3:=rfl;omega
  rcases this with rfl | rfl | rfl <;> rfl
 have C:=zH (word_any (k:=k) fixes wa.heap.size 0 3 wb F1.o.pw (by omega) OK.o (by decide) (zL qb) hwcs);rw[show fixes.length=3 from rfl] at C;clear hwcs qa ba qb bb;have FR:=fair_word p k fixes;rcases Lfc.PR.cases FR.1 with⟨cc,aa,hr⟩ | ⟨i,k1,hr⟩
 ·rw[hr] at C;have hm:=HR.o;rw[hr,Lfc.PR.then_errE] at hm;have HM:=zH hm;clear hr FR hm;go_enter Tryz.func125,Tryz.ntmps125;go_wp2_with (go_at_call 174;refine C.o.mono ?_;rintro e w1⟨rfl,o1⟩);rw[HM.o];exact⟨rfl,rfl,F1.o.oth.trans (Oth2.left o1)⟩
 rw[hr] at C;have hm:=HR.o;rw[hr,Lfc.PR.then_okE] at hm;have HR:=zH hm;obtain⟨hi0,hi1,_,_⟩:=Lfc.PE.word_ok hr;obtain⟨hk1a,hk1b⟩:=FR.2.2 _ _ hr;clear hr FR hm;have hi2:i=0\/i=1\/i=2:=by
  have:(fixes.length:Int)=3:=rfl;omega
 clear hi0 hi1;rcases hi2 with rfl | rfl | rfl
 ·skip
  go_enter Tryz.func125,Tryz.ntmps125;go_upto_region 1 with(go_at_call 174;refine C.o.mono ?_;rintro e w1⟨⟨v1,rfl,rfl⟩,h1,o1⟩;have F2:=zH (F1.o.call h1 o1);have c0:=zC (o1.heap QA.o (by have:=HPI.o.1;omega)) 0);have CO:=zH (opItem_any a 3 w1 F2.o.again (by omega) OK.o);have FR:=fair_op p (Itm.new a) 3 k1;have HZ:=zH F2.o.oth.size;rcases Lfc.PR.cases FR.1 with⟨cc,aa,hr⟩ | ⟨x,k',hr⟩
  ·rw[hr] at CO;have HM:=zH (HR.o.trans hr);clear hr FR;go_wp2_with (go_at_call 175;refine CO.o.mono ?_;rintro e w2⟨rfl,o2⟩);rw[HM.o];exact⟨rfl,rfl,F2.o.oth.trans o2⟩
  rw[hr] at CO;have HM:=zH (HR.o.trans hr);clear hr FR;go_wp2_with (go_at_call 175;refine CO.o.mono ?_;rintro e w2⟨rfl,HH'⟩;have HH:=zH HH';clear HH')
  go_end0
  rw[HM.o];obtain⟨⟨G',g1,g2⟩,⟨s,q1,q2⟩,o2⟩:=HH.o;exact⟨rfl,⟨G',g1,fun J hJ hG=>g2 J (Zl hJ HZ.o) hG⟩,⟨s,q1,q2.to (zN _) (fun _ _ _=>rfl) fun b _ hb=>zR HZ.o hb⟩,F2.o.oth.trans o2⟩
 ·skip
  go_enter Tryz.func125,Tryz.ntmps125;go_upto_region 1 with(go_at_call 174;refine C.o.mono ?_;rintro e w1⟨⟨v1,rfl,rfl⟩,h1,o1⟩;have F2:=zH (F1.o.call h1 o1);have c0:=zC (o1.heap QA.o (by have:=HPI.o.1;omega)) 1);have CO:=zH (opItem_any a 4 w1 F2.o.again (by omega) OK.o);have FR:=fair_op p (Itm.new a) 4 k1;have HZ:=zH F2.o.oth.size;rcases Lfc.PR.cases FR.1 with⟨cc,aa,hr⟩ | ⟨x,k',hr⟩
  ·rw[hr] at CO;have HM:=zH (HR.o.trans hr);clear hr FR;go_wp2_with (go_at_call 175;refine CO.o.mono ?_;rintro e w2⟨rfl,o2⟩);rw[HM.o];exact⟨rfl,rfl,F2.o.oth.trans o2⟩
  rw[hr] at CO;have HM:=zH (HR.o.trans hr);clear hr FR;go_wp2_with (go_at_call 175;refine CO.o.mono ?_;rintro e w2⟨rfl,HH'⟩;have HH:=zH HH';clear HH')
  go_end0
  rw[HM.o];obtain⟨⟨G',g1,g2⟩,⟨s,q1,q2⟩,o2⟩:=HH.o;exact⟨rfl,⟨G',g1,fun J hJ hG=>g2 J (Zl hJ HZ.o) hG⟩,⟨s,q1,q2.to (zN _) (fun _ _ _=>rfl) fun b _ hb=>zR HZ.o hb⟩,F2.o.oth.trans o2⟩
 skip
 go_enter Tryz.func125,Tryz.ntmps125;go_upto_region 1 with(go_at_call 174;refine C.o.mono ?_;rintro e w1⟨⟨v1,rfl,rfl⟩,h1,o1⟩;have F2:=zH (F1.o.call h1 o1);have c0:=zC (o1.heap QA.o (by have:=HPI.o.1;omega)) 2);have CO:=zH (opItem_any a 5 w1 F2.o.again (by omega) OK.o);have FR:=fair_op p (Itm.new a) 5 k1;have HZ:=zH F2.o.oth.size;rcases Lfc.PR.cases FR.1 with⟨cc,aa,hr⟩ | ⟨x,k',hr⟩
 ·rw[hr] at CO;have HM:=zH (HR.o.trans hr);clear hr FR;go_wp2_with (go_at_call 175;refine CO.o.mono ?_;rintro e w2⟨rfl,o2⟩);rw[HM.o];exact⟨rfl,rfl,F2.o.oth.trans o2⟩
 rw[hr] at CO;have HM:=zH (HR.o.trans hr);clear hr FR;go_wp2_with (go_at_call 175;refine CO.o.mono ?_;rintro e w2⟨rfl,HH'⟩;have HH:=zH HH';clear HH')
 go_end0
 rw[HM.o];obtain⟨⟨G',g1,g2⟩,⟨s,q1,q2⟩,o2⟩:=HH.o;exact⟨rfl,⟨G',g1,fun J hJ hG=>g2 J (Zl hJ HZ.o) hG⟩,⟨s,q1,q2.to (zN _) (fun _ _ _=>rfl) fun b _ hb=>zR HZ.o hb⟩,F2.o.oth.trans o2⟩
end
section
open Go.RowKit Go.Maps Go.WideMaps
def heldR(v:Value):Option (DataW Value × List MemPlace):=some (.held v,[])
def VMap(z:Value)(w:World)(Mb N:Nat)(g:List UInt8→Option Value):Prop:=∃D:DataW Value,w.ownsMap Tryz.prog 9 heldR Mb N D∧∀n:List UInt8,D.atKey (.string n) (.held z)=.held ((g n).getD z)∧Maps.has D (.string n)=(g n).isSome
theorem vkey_name(n:List UInt8)(hn:n.length≤1000000):keyOf Tryz.prog 9 (S n)=some (.string n):=by
 simpa using keyOf_string_mk (P:=Tryz.prog) Tryz.underlying9 (s:=⟨n.toArray⟩) (by simp[ByteArray.size];unfold maxLen;omega)
theorem VMap.look{z:Value}{w:World}{Mb N:Nat}{g:List UInt8→Option Value}(h:VMap z w Mb N g)(T e:TypeId)(hT:Tryz.prog.underlying T=some (.map 9 e))(hz:∀w,(zeroValue e).run Tryz.prog w=.ok z w)(n:List UInt8)(hn:n.length≤1000000) :
  (Instr.lookup T (.map (some Mb)) (S n) true).run Tryz.prog w=.ok (.tuple #[(g n).getD z,.bool (g n).isSome]) w:=by
 obtain⟨D,hown,hD⟩:=h;obtain⟨v,ps,hrun,hv⟩:=hown.look_ok (string_keyed Tryz.underlying9) hT (hz w) (show heldR z=some (.held z,[]) from rfl) (vkey_name n hn);rw[(hD n).1,heldR] at hv;simp only[Option.some.injEq,Prod.mk.injEq,DataW.held.injEq] at hv;rw[(hD n).2,hv.1] at hrun;exact hrun
theorem VMap.look1{z:Value}{w:World}{Mb N:Nat}{g:List UInt8→Option Value}(h:VMap z w Mb N g)(T e:TypeId)(hT:Tryz.prog.underlying T=some (.map 9 e))(hz:∀w,(zeroValue e).run Tryz.prog w=.ok z w)(n:List UInt8)(hn:n.length≤1000000) :
  (Instr.lookup T (.map (some Mb)) (S n) false).run Tryz.prog w=.ok ((g n).getD z) w:=by
 obtain⟨D,hown,hD⟩:=h;obtain⟨v,ps,hrun,hv⟩:=hown.lookup (string_keyed Tryz.underlying9) hT (hz w) (show heldR z=some (.held z,[]) from rfl) (vkey_name n hn);rw[(hD n).1,heldR] at hv;simp only[Option.some.injEq,Prod.mk.injEq,DataW.held.injEq] at hv;rw[hv.1] at hrun;exact hrun
theorem VMap.made(z:Value)(w:World):VMap z (w.alloc (.map #[] 0)) w.heap.size 0 (fun _=>none) :=
 ⟨.map [],World.ownsMap_made _ _ _ _,fun n=>⟨rfl,rfl⟩⟩
theorem VMap.kept{z:Value}{w w':World}{Mb N:Nat}{g:List UInt8→Option Value}{row:Option Nat}(h:VMap z w Mb N g)(hg:w.grownBy w' row)(hne:some Mb≠row):VMap z w' Mb N g:=by
 obtain⟨D,hown,hD⟩:=h;exact⟨D,hown.kept hg hne,hD⟩
theorem VMap.below{z:Value}{w w':World}{Mb N:Nat}{g:List UInt8→Option Value}(h:VMap z w Mb N g)(hb:Below w.heap.size w w'):VMap z w' Mb N g :=
 h.kept (row:=none) ⟨hb.os,hb.tape,hb.output,hb.size,fun k hk _=>hb.block k hk⟩ (fun e=>by cases e)
theorem VMap.lt{z:Value}{w:World}{Mb N:Nat}{g:List UInt8→Option Value}(h:VMap z w Mb N g):Mb<w.heap.size:=by
 obtain⟨D,hown,_⟩:=h;exact hown.lt
theorem VMap.put{z:Value}{w:World}{Mb N:Nat}{g:List UInt8→Option Value}(h:VMap z w Mb N g)(T e:TypeId)(hT:Tryz.prog.underlying T=some (.map 9 e))(hN:N≤1000000000)(n:List UInt8)(hn:n.length≤1000000)(v:Value) :
  ∃w',(Instr.mapUpdate T (.map (some Mb)) (S n) v).run Tryz.prog w=.ok () w'∧VMap z w' Mb (N+1) (fun x=>if x=n then some v else g x)∧Oth Mb w w':=by
 obtain⟨D,hown,hD⟩:=h;obtain⟨w',hrun,hown',hturn⟩:=hown.store (string_keyed Tryz.underlying9) hT (by unfold maxLen;omega) (vkey_name n hn) (show heldR v=some (.held v,[]) from rfl);refine⟨w',hrun,⟨_,hown',fun x=>?_⟩,hturn.grown⟩;by_cases e:x=n
 ·subst e;rw[atKey_put_same hown.isMap (by simp[WideAt.IsKeyLit]),has_put_same hown.isMap (by simp[WideAt.IsKeyLit])];simp
 rw[atKey_put_other (by simpa using e),has_put_other (by simpa using e)];simp only[if_neg e];exact hD x
theorem VMap.congr{z:Value}{w:World}{Mb N:Nat}{g g':List UInt8→Option Value}(h:VMap z w Mb N g)(e:∀n,g n=g' n):VMap z w Mb N g':=by
 obtain rfl:g=g':=funext e;exact h
end
section
open Go.RowKit Go.Maps Go.WideMaps _root_.Lfc
def dirFn:Int→FuncId
 |0=>125
 |1=>126
 |2=>127
 |3=>128
 |4=>129
 |5=>130
 |6=>131
 |7=>132
 |8=>133
 |9=>134
 |10=>135
 |11=>136
 |_=>137
def dirV(i:Int):Value:=.func (.func (dirFn i)) #[] #[]
def dirG(n:List UInt8):Option Value:=if idxW n dirs<0 then none else some (dirV (idxW n dirs))
theorem fz_run(w:World):(zeroValue 138).run Tryz.prog w=.ok .nilFunc w:=by kernel_rfl
theorem idxW_no(s:List UInt8):∀ws:List (List UInt8),(∀x∈ws,x≠s)→idxW s ws=-1
 |[],_=>rfl
 |a :: r,h=>by
  rw[idxW,if_neg (h a (by simp)),idxW_no s r (fun x hx=>h x (by simp[hx]))];rfl
theorem dirG_eq(n:List UInt8):(
  if n=[113,117,101,114,121] then some (dirV 12) else if n=[114,101,100,117,99,101,115] then some (dirV 11) else if n=[116,111,116,97,108] then some (dirV 10) else if n=[116,101,114,109,105,110,97,116,101,115] then some (dirV 9) else if n=[115,116,114,105,99,116] then some (dirV 8) else if n=[117,110,105,113,117,101] then some (dirV 7) else if n=[99,111,118,101,114,115] then some (dirV 6) else if n=[109,111,100,101] then some (dirV 5) else if n=[119,111,114,108,100,115] then some (dirV 4) else if n=[98,108,111,99,107] then some (dirV 3) else if n=[112,111,115,116,102,105,120] then some (dirV 2) else if n=[112,114,101,102,105,120] then some (dirV 1) else if n=[105,110,102,105,120] then some (dirV 0) else none)=dirG n:=by
 by_cases h0:n=[105,110,102,105,120]
 ·subst h0;rfl
 by_cases h1:n=[112,114,101,102,105,120]
 ·subst h1;rfl
 by_cases h2:n=[112,111,115,116,102,105,120]
 ·subst h2;rfl
 by_cases h3:n=[98,108,111,99,107]
 ·subst h3;rfl
 by_cases h4:n=[119,111,114,108,100,115]
 ·subst h4;rfl
 by_cases h5:n=[109,111,100,101]
 ·subst h5;rfl
 by_cases h6:n=[99,111,118,101,114,115]
 ·subst h6;rfl
 by_cases h7:n=[117,110,105,113,117,101]
 ·subst h7;rfl
 by_cases h8:n=[115,116,114,105,99,116]
 ·subst h8;rfl
 by_cases h9:n=[116,101,114,109,105,110,97,116,101,115]
 ·subst h9;rfl
 by_cases h10:n=[116,111,116,97,108]
 ·subst h10;rfl
 by_cases h11:n=[114,101,100,117,99,101,115]
 ·subst h11;rfl
 by_cases h12:n=[113,117,101,114,121]
 ·subst h12;rfl
 rw[if_neg h12,if_neg h11,if_neg h10,if_neg h9,if_neg h8,if_neg h7,if_neg h6,if_neg h5,if_neg h4,if_neg h3,if_neg h2,if_neg h1,if_neg h0];have hz:idxW n dirs=-1:=by
  refine idxW_no n _ fun x hx=>?_;unfold dirs at hx;simp only[List.mem_cons,List.not_mem_nil,or_false] at hx;rcases hx with rfl | rfl | rfl | rfl | rfl | rfl | rfl | rfl | rfl | rfl | rfl | rfl | rfl
  ·exact fun e=>h0 e.symm
  ·exact fun e=>h1 e.symm
  ·exact fun e=>h2 e.symm
  ·exact fun e=>h3 e.symm
  ·exact fun e=>h4 e.symm
  ·exact fun e=>h5 e.symm
  ·exact fun e=>h6 e.symm
  ·exact fun e=>h7 e.symm
  ·exact fun e=>h8 e.symm
  ·exact fun e=>h9 e.symm
  ·exact fun e=>h10 e.symm
  ·exact fun e=>h11 e.symm
  exact fun e=>h12 e.symm
 unfold dirG;rw[hz];rfl
theorem directives_any(w:World):Calls Tryz.prog 71 #[] w fun e w'=>∃M N,e=.returned (.map (some M))/\VMap .nilFunc w' M N dirG/\zb w w':=by
 have hT:Tryz.prog.underlying 139=some (.map 9 138):=Tryz.underlying139;obtain⟨wa,hwa⟩:∃wa,w.alloc (.map #[] 0)=wa:=⟨_,rfl⟩;have ba:zb w wa:=by rw[<-hwa];exact(zB _ _).alloc (zN _) _
 have m0:VMap .nilFunc wa w.heap.size 0 (fun _=>none):=by rw[<-hwa];exact VMap.made _ _
 obtain⟨w1,r1,m1,o1⟩:=m0.put 139 138 hT (by decide) [105,110,102,105,120] (by decide) (dirV 0);rw[show dirV 0=.func (.func 125) #[] #[] from rfl] at r1;obtain⟨w2,r2,m2,o2⟩:=m1.put 139 138 hT (by decide) [112,114,101,102,105,120] (by decide) (dirV 1);rw[show dirV 1=.func (.func 126) #[] #[] from rfl] at r2;obtain⟨w3,r3,m3,o3⟩:=m2.put 139 138 hT (by decide) [112,111,115,116,102,105,120] (by decide) (dirV 2);rw[show dirV 2=.func (.func 127) #[] #[] from rfl] at r3;obtain⟨w4,r4,m4,o4⟩:=m3.put 139 138 hT (by decide) [98,108,111,99,107] (by decide) (dirV 3);rw[show dirV 3=.func (.func 128) #[] #[] from rfl] at r4;obtain⟨w5,r5,m5,o5⟩:=m4.put 139 138 hT (by decide) [119,111,114,108,100,115] (by decide) (dirV 4);rw[show dirV 4=.func (.func 129) #[] #[] from rfl] at r5;obtain⟨w6,r6,m6,o6⟩:=m5.put 139 138 hT (by decide) [109,111,100,101] (by decide) (dirV 5);rw[show dirV 5=.func (.func 130) #[] #[] from rfl] at r6;obtain⟨w7,r7,m7,o7⟩:=m6.put 139 138 hT (by decide) [99,111,118,101,114,115] (by decide) (dirV 6);rw[show dirV 6=.func (.func 131) #[] #[] from rfl] at r7;obtain⟨w8,r8,m8,o8⟩:=m7.put 139 138 hT (by decide) [117,110,105,113,117,101] (by decide) (dirV 7);rw[show dirV 7=.func (.func 132) #[] #[] from rfl] at r8;obtain⟨w9,r9,m9,o9⟩:=m8.put 139 138 hT (by decide) [115,116,114,105,99,116] (by decide) (dirV 8);rw[show dirV 8=.func (.func 133) #[] #[] from rfl] at r9;obtain⟨w10,r10,m10,o10⟩:=m9.put 139 138 hT (by decide) [116,101,114,109,105,110,97,116,101,115] (by decide) (dirV 9);rw[show dirV 9=.func (.func 134) #[] #[] from rfl] at r10;obtain⟨w11,r11,m11,o11⟩:=m10.put 139 138 hT (by decide) [116,111,116,97,108] (by decide) (dirV 10);rw[show dirV 10=.func (.func 135) #[] #[] from rfl] at r11;obtain⟨w12,r12,m12,o12⟩:=m11.put 139 138 hT (by decide) [114,101,100,117,99,101,115] (by decide) (dirV 11);rw[show dirV 11=.func (.func 136) #[] #[] from rfl] at r12;obtain⟨w13,r13,m13,o13⟩:=m12.put 139 138 hT (by decide) [113,117,101,114,121] (by decide) (dirV 12);rw[show dirV 12=.func (.func 137) #[] #[] from rfl] at r13;have OB:Hid (zb w w13):=zH (Oth.below (Oth.below (Oth.below (Oth.below (Oth.below (Oth.below (Oth.below (Oth.below (Oth.below (Oth.below (Oth.below (Oth.below (Oth.below (ba) o1 (zN _) (by have:=ba.size; omega)) o2 (zN _) (by have:=ba.size;have:=o1.size;omega)) o3 (zN _) (by have:=ba.size;have:=o1.size;have:=o2.size;omega)) o4 (zN _) (by have:=ba.size;have:=o1.size;have:=o2.size;have:=o3.size;omega)) o5 (zN _) (by have:=ba.size;have:=o1.size;have:=o2.size;have:=o3.size;have:=o4.size;omega)) o6 (zN _) (by have:=ba.size;have:=o1.size;have:=o2.size;have:=o3.size;have:=o4.size;have:=o5.size;omega)) o7 (zN _) (by have:=ba.size;have:=o1.size;have:=o2.size;have:=o3.size;have:=o4.size;have:=o5.size;have:=o6.size;omega)) o8 (zN _) (by have:=ba.size;have:=o1.size;have:=o2.size;have:=o3.size;have:=o4.size;have:=o5.size;have:=o6.size;have:=o7.size;omega)) o9 (zN _) (by have:=ba.size;have:=o1.size;have:=o2.size;have:=o3.size;have:=o4.size;have:=o5.size;have:=o6.size;have:=o7.size;have:=o8.size;omega)) o10 (zN _) (by have:=ba.size;have:=o1.size;have:=o2.size;have:=o3.size;have:=o4.size;have:=o5.size;have:=o6.size;have:=o7.size;have:=o8.size;have:=o9.size;omega)) o11 (zN _) (by have:=ba.size;have:=o1.size;have:=o2.size;have:=o3.size;have:=o4.size;have:=o5.size;have:=o6.size;have:=o7.size;have:=o8.size;have:=o9.size;have:=o10.size;omega)) o12 (zN _) (by have:=ba.size;have:=o1.size;have:=o2.size;have:=o3.size;have:=o4.size;have:=o5.size;have:=o6.size;have:=o7.size;have:=o8.size;have:=o9.size;have:=o10.size;have:=o11.size;omega)) o13 (zN _) (by have:=ba.size;have:=o1.size;have:=o2.size;have:=o3.size;have:=o4.size;have:=o5.size;have:=o6.size;have:=o7.size;have:=o8.size;have:=o9.size;have:=o10.size;have:=o11.size;have:=o12.size;omega));have MM:Hid (VMap .nilFunc w13 w.heap.size 13 dirG):=zH (m13.congr dirG_eq);clear m0 m1 m2 m3 m4 m5 m6 m7 m8 m9 m10 m11 m12 m13 o1 o2 o3 o4 o5 o6 o7 o8 o9 o10 o11 o12 o13 ba hT;have hmk:∀W:World,(Instr.makeMap 139 none).run Tryz.prog W=.ok (.map (some W.heap.size)) (W.alloc (.map #[] 0)):=fun W=>rfl;go_enter Tryz.func71,Tryz.ntmps71;go_wp2_with fail;go_ret;exact⟨_,_,rfl,MM.o,OB.o⟩
end
end Go.Proofs.YthajalgkjonaaaaGreatDoor
