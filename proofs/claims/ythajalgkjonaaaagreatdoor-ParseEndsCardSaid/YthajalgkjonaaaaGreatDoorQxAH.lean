/- Parts of the proof that no input makes the law false: OpA,OpA2,StepApp,RawMade,RawSpoil,OpClone,OpMap. -/
import Derived.Maps.AppendAt
import Derived.Deep.RegionLaw
import Derived.Deep.RegionHeld3
import Derived.Deep.DeepCutAuto
import Derived.Deep.CutBlock
import Derived.RegionTactic
import Derived.Test.YthajalgkjonaaaaGreatDoorQxAF
import Derived.Test.YthajalgkjonaaaaGreatDoorQxAG
set_option linter.unusedVariables false
set_option linter.unusedSimpArgs false
namespace Go.Proofs.YthajalgkjonaaaaGreatDoor
open Go.RowKit Go.Maps Go.WideMaps
set_option maxRecDepth 100000 in
set_option maxHeartbeats 2000000 in
theorem check_any(o:Lfc.Op)(w:World)(hn:o.name.length≤1000000):Calls Tryz.prog 106 #[opV o] w fun e w'=>e=.returned (.int .i64 o.bad)∧Below w.heap.size w w':=by
 obtain⟨n,f,p⟩:=o
 unfold opV
 simp only at hn ⊢
 obtain⟨z,hz⟩:∃z,Lfc.Op.bad ⟨n,f,p⟩=z:=⟨_,rfl⟩
 rw[hz]
 have HZ:=Lib.hid hz
 have HN:=Lib.hid (fun W=>isName_any n W (by omega))
 have b1:Below w.heap.size w (w.alloc (.cells #[S n,.int .i64 f,.int .i64 p] 34)):=(Below.refl _ _).alloc (Nat.le_refl _) _
 clear hz
 cases hq:Lfc.isName n
 ·rw[hq] at HN
  have HQ:=Lib.hid hq
  clear hq
  go_enter Tryz.func106,Tryz.ntmps106
  go_wp2_with fail
  refine(HN.out _).mono ?_
  rintro e w2⟨rfl,rfl⟩
  go_wp2_with fail
  go_ret
  exact⟨ret_int (by rw[←HZ.out];first | (simp[Lfc.Op.bad,HQ.out];done) | (simp[Lfc.Op.bad,HQ.out];rw[if_neg (by omega),if_neg (by omega)])),b1⟩
 ·rw[hq] at HN
  have HQ:=Lib.hid hq
  clear hq
  by_cases a1:f<1
  ·have d0:decide (f<1)=true:=by simpa using a1
   have Ha1:=Lib.hid a1
   go_enter Tryz.func106,Tryz.ntmps106
   go_wp2_with fail
   refine(HN.out _).mono ?_
   rintro e w2⟨rfl,rfl⟩
   go_wp2_with fail
   go_ret
   exact⟨ret_int (by rw[←HZ.out];first | (simp[Lfc.Op.bad,HQ.out,Ha1.out];done) | (simp[Lfc.Op.bad,HQ.out,Ha1.out];rw[if_neg (by omega),if_neg (by omega)])),b1⟩
  ·have d0:decide (f<1)=false:=by simpa using a1
   have Ha1:=Lib.hid a1
   have i0:1≤f:=by omega
   clear a1
   by_cases a2:5<f
   ·have d1:decide (5<f)=true:=by simpa using a2
    have Ha2:=Lib.hid a2
    go_enter Tryz.func106,Tryz.ntmps106
    go_wp2_with fail
    refine(HN.out _).mono ?_
    rintro e w2⟨rfl,rfl⟩
    go_wp2_with fail
    go_ret
    exact⟨ret_int (by rw[←HZ.out];first | (simp[Lfc.Op.bad,HQ.out,Ha1.out,Ha2.out];done) | (simp[Lfc.Op.bad,HQ.out,Ha1.out,Ha2.out];rw[if_neg (by omega),if_neg (by omega)])),b1⟩
   ·have d1:decide (5<f)=false:=by simpa using a2
    have Ha2:=Lib.hid a2
    have i1:f≤5:=by omega
    clear a2
    by_cases a3:p<0
    ·have d2:decide (p<0)=true:=by simpa using a3
     have Ha3:=Lib.hid a3
     go_enter Tryz.func106,Tryz.ntmps106
     go_wp2_with fail
     refine(HN.out _).mono ?_
     rintro e w2⟨rfl,rfl⟩
     go_wp2_with fail
     go_ret
     exact⟨ret_int (by rw[←HZ.out];first | (simp[Lfc.Op.bad,HQ.out,Ha1.out,Ha2.out,Ha3.out];done) | (simp[Lfc.Op.bad,HQ.out,Ha1.out,Ha2.out,Ha3.out];rw[if_neg (by omega),if_neg (by omega)])),b1⟩
    ·have d2:decide (p<0)=false:=by simpa using a3
     have Ha3:=Lib.hid a3
     have i2:0≤p:=by omega
     clear a3
     by_cases a4:99<p
     ·have d3:decide (99<p)=true:=by simpa using a4
      have Ha4:=Lib.hid a4
      go_enter Tryz.func106,Tryz.ntmps106
      go_wp2_with fail
      refine(HN.out _).mono ?_
      rintro e w2⟨rfl,rfl⟩
      go_wp2_with fail
      go_ret
      exact⟨ret_int (by rw[←HZ.out];first | (simp[Lfc.Op.bad,HQ.out,Ha1.out,Ha2.out,Ha3.out,Ha4.out];done) | (simp[Lfc.Op.bad,HQ.out,Ha1.out,Ha2.out,Ha3.out,Ha4.out];rw[if_neg (by omega),if_neg (by omega)])),b1⟩
     ·have d3:decide (99<p)=false:=by simpa using a4
      have Ha4:=Lib.hid a4
      have i3:p≤99:=by omega
      clear a4
      go_enter Tryz.func106,Tryz.ntmps106
      go_wp2_with fail
      refine(HN.out _).mono ?_
      rintro e w2⟨rfl,rfl⟩
      go_wp2_with fail
      go_ret
      exact⟨ret_int (by rw[←HZ.out];first | (simp[Lfc.Op.bad,HQ.out,Ha1.out,Ha2.out,Ha3.out,Ha4.out];done) | (simp[Lfc.Op.bad,HQ.out,Ha1.out,Ha2.out,Ha3.out,Ha4.out];rw[if_neg (by omega),if_neg (by omega)])),b1⟩
end Go.Proofs.YthajalgkjonaaaaGreatDoor
namespace Go.Proofs.YthajalgkjonaaaaGreatDoor
open Go.RowKit Go.Maps Go.WideMaps
set_option maxRecDepth 100000 in
set_option maxHeartbeats 2000000 in
theorem arrow_any(x:Lfc.Opd)(v:Value)(w:World)(hl:x.tree.args.length≤1000000000)(hv:OpdV w x v):Calls Tryz.prog 121 #[v] w fun e w'=>e=.returned (.bool x.arrow)∧Below w.heap.size w w':=by
 obtain⟨⟨k,n,p,ts⟩,cl⟩:=x
 obtain⟨k',n',p',ts',A,c,e,rfl,hT⟩:=hv
 cases e
 simp only[Lfc.Raw.args] at hl ⊢
 obtain⟨z,hz⟩:∃z,Lfc.Opd.arrow ⟨.node k n p ts,cl⟩=z:=⟨_,rfl⟩
 rw[hz]
 have HZ:=Lib.hid hz
 clear hT hz
 obtain⟨w1,hw1⟩:∃w1,(w.alloc (.cells #[.int .i64 k,S n,.int .i64 p,.slice A ts.length c,.bool cl] 129)).alloc (.cells #[.int .i64 k,S n,.int .i64 p,.slice A ts.length c] 46)=w1:=⟨_,rfl⟩
 have b1:Below w.heap.size w w1:=by rw[←hw1];exact((Below.refl _ _).alloc (Nat.le_refl _) _).alloc (by simp) _
 have qo:w1.heap[w.heap.size]?=some (.cells #[.int .i64 k,S n,.int .i64 p,.slice A ts.length c,.bool cl] 129 (0,0)):=by rw[←hw1];exact heap_alloc_old _ _ _ _ (heap_alloc_new _ _)
 have qt:w1.heap[w.heap.size+1]?=some (.cells #[.int .i64 k,S n,.int .i64 p,.slice A ts.length c] 46 (0,0)):=by
  rw[←hw1]
  have:=heap_alloc_new (w.alloc (.cells #[.int .i64 k,S n,.int .i64 p,.slice A ts.length c,.bool cl] 129)) (.cells #[.int .i64 k,S n,.int .i64 p,.slice A ts.length c] 46)
  simpa using this
 have y4:w1.cell? ⟨w.heap.size,4,none⟩=some (.bool cl):=Lib.cell_of_heap qo 4
 obtain⟨x0,x1,x2,x3⟩:w1.cell? ⟨w.heap.size+1,0,none⟩=some (.int .i64 k)∧w1.cell? ⟨w.heap.size+1,1,none⟩=some (S n)∧w1.cell? ⟨w.heap.size+1,2,none⟩=some (.int .i64 p)∧w1.cell? ⟨w.heap.size+1,3,none⟩=some (.slice A ts.length c):=⟨Lib.cell_of_heap qt 0,Lib.cell_of_heap qt 1,Lib.cell_of_heap qt 2,Lib.cell_of_heap qt 3⟩
 clear qo qt
 cases cl
 ·by_cases hk:k=1
  ·subst hk
   by_cases ht:ts.length=0
   ·have ht2:((ts.length:Int) == 0)=true:=by simp[ht]
    have HT:=Lib.hid ht
    clear ht
    by_cases hr:n=[45,62]
    ·subst hr
     go_enter Tryz.func121,Tryz.ntmps121
     go_upto_region 2 with fail
     clear hw1
     go_wp2_with fail
     go_ret
     exact⟨by rw[←HZ.out];simp[Lfc.Opd.arrow,Lfc.Raw.kind,Lfc.Raw.args,Lfc.Raw.name,Lfc.arrR,Lfc.arrL,HT.out],b1⟩
    ·by_cases hl2:n=[60,45]
     ·subst hl2
      go_enter Tryz.func121,Tryz.ntmps121
      go_upto_region 2 with fail
      clear hw1
      go_wp2_with fail
      go_ret
      exact⟨by rw[←HZ.out];simp[Lfc.Opd.arrow,Lfc.Raw.kind,Lfc.Raw.args,Lfc.Raw.name,Lfc.arrR,Lfc.arrL,HT.out],b1⟩
     ·have hr2:(n == [45,62])=false:=by simpa using hr
      have hl3:(n == [60,45])=false:=by simpa using hl2
      have HR:=Lib.hid hr
      have HL:=Lib.hid hl2
      have hr3:¬n.toArray=#[45,62]:=fun e=>hr (by simpa using congrArg Array.toList e)
      have hl4:¬n.toArray=#[60,45]:=fun e=>hl2 (by simpa using congrArg Array.toList e)
      clear hr hl2
      go_enter Tryz.func121,Tryz.ntmps121
      go_upto_region 2 with fail
      clear hw1
      go_wp2_with fail
      go_ret
      exact⟨by rw[←HZ.out];simp[Lfc.Opd.arrow,Lfc.Raw.kind,Lfc.Raw.args,Lfc.Raw.name,Lfc.arrR,Lfc.arrL,HT.out,HR.out,HL.out],b1⟩
   ·have ht2:((ts.length:Int) == 0)=false:=by simp;intro e;exact ht (by simp[e])
    have HT:=Lib.hid ht
    clear ht
    go_enter Tryz.func121,Tryz.ntmps121
    go_upto_region 2 with fail
    clear hw1
    go_wp2_with fail
    go_ret
    exact⟨by rw[←HZ.out];simp[Lfc.Opd.arrow,Lfc.Raw.kind,Lfc.Raw.args,Lfc.Raw.name,Lfc.arrR,Lfc.arrL,HT.out],b1⟩
  ·have hk2:(k == 1)=false:=by simpa using hk
   have HK:=Lib.hid hk
   clear hk
   go_enter Tryz.func121,Tryz.ntmps121
   go_upto_region 2 with fail
   clear hw1
   go_wp2_with fail
   go_ret
   exact⟨by rw[←HZ.out];simp[Lfc.Opd.arrow,Lfc.Raw.kind,Lfc.Raw.args,Lfc.Raw.name,Lfc.arrR,Lfc.arrL,HK.out],b1⟩
 ·go_enter Tryz.func121,Tryz.ntmps121
  go_upto_region 2 with fail
  clear hw1
  go_wp2_with fail
  go_ret
  exact⟨by rw[←HZ.out];simp[Lfc.Opd.arrow,Lfc.Raw.kind,Lfc.Raw.args,Lfc.Raw.name,Lfc.arrR,Lfc.arrL],b1⟩
end Go.Proofs.YthajalgkjonaaaaGreatDoor
namespace Go.Proofs.YthajalgkjonaaaaGreatDoor
open Go.RowKit
section
variable {P:Program} (w:World)
theorem step_append_own_at{ops:Array Oper}{o:Oper}{a:Act}{K:Act→World→Prop}{Q:Exit→Act→World→Prop}{E:Prop}(hgd:o.guard=none)(s x:Operand)(t:TypeId)
  (ho:o.op=.call { callee:=.builtin .append,args:=#[s,x],argTypes:=#[t,t] })
  (base:Nat) (e:TypeId) (i:TypeInfo) (z:Value) (size bytes:Nat) (ht:P.underlying t=some (.slice e)) (hi:P.info? e=some i) (hz:i.zero=some z)
  (hsize:i.size=size) (hby:i.bytes=bytes) (hzs:z.cells.size=size) (hsz:0<size)
  (v:Value) (n:Nat) (xs:List Value) (hs:a.eval s=v) (hown:w.ownsRow base e size v n xs)
  (ad:Addr) (m c:Nat) (news:List Value) (hx:a.eval x=.slice (some ad) m c) (hl:news.length=m*size) (hnews:∀j u,news[j]?=some u→w.cell? (ad.add j)=some u) (h1:∀u∈news,u.oneCell'=true)
  (h63:n+m≤maxLen) (hbytes:(n+m)*bytes≤140737488355328) (hbase:base≤w.heap.size)
  (h:∀v' w',w'.ownsRow base e size v' (n+m) (xs++news)→w.grownBy w' v.ownBlock→(v'.ownBlock=v.ownBlock∨v'.ownBlock=some w.heap.size)→K (a.put o.dst v') w') :
  if Region.wanted o (yielded ops a.tmps)=true then Oper.wp P o a w K Q else E:=by
 have hw:Region.wanted o (yielded ops a.tmps)=true:=by simp[Region.wanted,hgd]
 rw[if_pos hw]
 obtain⟨v',w',hr,h2,h3,h4,h5⟩:=run_append_own_at (P:=P) w base t o.type e i z size bytes ht hi hz hsize hby hzs hsz v n xs hown ad m c news hl hnews h1 h63 hbytes hbase
 unfold Oper.wp execOp
 simp only[ho,resolve,invoke,builtin,Sem.run_bind,Sem.run_pure,Result.andThen_ok,List.map_toArray,List.map_cons,List.map_nil,hs,hx,hr]
 exact h v' w' h2 h3 h5
end
end Go.Proofs.YthajalgkjonaaaaGreatDoor
namespace Go.Proofs.YthajalgkjonaaaaGreatDoor
open Go.RowKit Go.Maps Go.WideMaps
theorem TreeVP.open_{q:Nat→Prop}{w:World}{k p:Int}{n:List UInt8}{ts:List Lfc.Raw}{v:Value}(h:TreeVP q w (.node k n p ts) v):∃A c,v=.agg #[.int .i64 k,S n,.int .i64 p,.slice A ts.length c]∧TreeP q w (.node k n p ts) (.int .i64 k) (S n) (.int .i64 p) (.slice A ts.length c):=by
 obtain⟨v0,v1,v2,v3,rfl,h⟩:=h
 have h':=h
 rw[TreeP] at h
 obtain⟨rfl,rfl,_,rfl,A,c,rfl,_⟩:=h
 exact⟨A,c,rfl,h'⟩
theorem cells4{W:World}{g:Nat}{v0 v1 v2 v3:Value}{t:TypeId}(h:W.heap[g]?=some (.cells #[v0,v1,v2,v3] t (0,0))):W.cell? ⟨g,0,none⟩=some v0∧W.cell? ⟨g,1,none⟩=some v1∧W.cell? ⟨g,2,none⟩=some v2∧W.cell? ⟨g,3,none⟩=some v3 :=
 ⟨Lib.cell_of_heap h 0,Lib.cell_of_heap h 1,Lib.cell_of_heap h 2,Lib.cell_of_heap h 3⟩
theorem raw_size:(Tryz.prog.info? 46).map (·.size)=some 4:=by kernel_rfl
theorem results_raw{fn:Func}{p:Tmp}(h:fn.results=#[.cell p 46])(tmps:Array Value)(w:World)(g:Nat)(v0 v1 v2 v3:Value)(hp:tmps.getD p undef=.pointer (some ⟨g,0,none⟩))(hg:w.heap[g]?=some (.cells #[v0,v1,v2,v3] 46 (0,0))) :
  (results fn tmps).run Tryz.prog w=.ok (.agg #[v0,v1,v2,v3]) w :=
 results_cell_row h tmps w g _ _ _ _ hp hg Tryz.underlying46 rfl raw_size
theorem set3{W:World}{r:Nat}{v0 v1 v2 v3 v:Value}{t:TypeId}(h:W.heap[r]?=some (.cells #[v0,v1,v2,v3] t (0,0))):(W.setCell ⟨r,3,none⟩ v).heap[r]?=some (.cells #[v0,v1,v2,v] t (0,0)):=by
 simp[World.setCell,Array.getElem?_modify,h]
theorem set1{W:World}{r:Nat}{v0 v1 v2 v3 v:Value}{t:TypeId}(h:W.heap[r]?=some (.cells #[v0,v1,v2,v3] t (0,0))):(W.setCell ⟨r,1,none⟩ v).heap[r]?=some (.cells #[v0,v,v2,v3] t (0,0)):=by
 simp[World.setCell,Array.getElem?_modify,h]
theorem raw_info:∃i,Tryz.prog.info? 46=some i∧i.zero=some (.agg #[.int .i64 0,S [],.int .i64 0,.slice none 0 0])∧i.size=4∧i.bytes=56:=by
 obtain⟨i0,hi,hz0,hz1,hz2⟩:=info_parts (show(Tryz.prog.info? 46).map (fun i=>(i.zero,i.size,i.bytes))=some (some (.agg #[.int .i64 0,S [],.int .i64 0,.slice none 0 0]),4,56) by kernel_rfl)
 exact⟨i0,hi,hz0,hz1,hz2⟩
theorem alloc_le{w:World}{o:Obj}{b:Nat}(h:b≤w.heap.size):b≤(w.alloc o).heap.size:=by simp;omega
theorem eq2{a b:Nat}(h:a=b):a≤b∧b≤a:=⟨Nat.le_of_eq h,Nat.le_of_eq h.symm⟩
theorem oneCell4{k p:Int}{n:List UInt8}{A:Option Addr}{l c:Nat}:∀u∈[Value.int .i64 k,S n,.int .i64 p,.slice A l c],u.oneCell'=true:=by
 intro u hu
 simp at hu
 rcases hu with rfl | rfl | rfl | rfl <;> rfl
end Go.Proofs.YthajalgkjonaaaaGreatDoor
namespace Go.Proofs.YthajalgkjonaaaaGreatDoor
open Go.RowKit Go.Maps Go.WideMaps
theorem TreeP.one{q:Nat→Prop}{w:World}:∀{t:Lfc.Raw}{v0 v1 v2 v3:Value},TreeP q w t v0 v1 v2 v3→v0.oneCell'=true∧v1.oneCell'=true∧v2.oneCell'=true∧v3.oneCell'=true
 |.node k n p ts,v0,v1,v2,v3,h=>by
  rw[TreeP] at h
  obtain⟨rfl,rfl,_,rfl,A,c,rfl,_⟩:=h
  exact⟨rfl,rfl,rfl,rfl⟩
theorem RowP.ones{q:Nat→Prop}{w:World}:∀{ts:List Lfc.Raw}{xs:List Value},RowP q w ts xs→∀u∈xs,u.oneCell'=true
 |[],xs,h=>by rw[RowP] at h;subst h;intro u hu;cases hu
 |t :: r,xs,h=>by
  rw[RowP] at h
  obtain⟨v0,v1,v2,v3,ys,rfl,ht,hr⟩:=h
  have h1:=ht.one
  intro u hu
  simp only[List.mem_cons] at hu
  rcases hu with rfl | rfl | rfl | rfl | hu
  ·exact h1.1
  ·exact h1.2.1
  ·exact h1.2.2.1
  ·exact h1.2.2.2
  ·exact hr.ones u hu
theorem cellsAdd{w:World}{b o:Nat}{xs:List Value}(h:CellsAt w b o xs):∀j u,xs[j]?=some u→w.cell? ((⟨b,o,none⟩:Addr).add j)=some u:=fun j u hj=>by
 rw[Go.WideShapes.add_plain];exact h j u hj
theorem RowP.get{q:Nat→Prop}{w:World}:∀{ts:List Lfc.Raw}{xs:List Value}(i:Nat)(h:i<ts.length),RowP q w ts xs→∃v0 v1 v2 v3,xs[i*4]?=some v0∧xs[i*4+1]?=some v1∧xs[i*4+2]?=some v2∧xs[i*4+3]?=some v3∧TreeP q w ts[i] v0 v1 v2 v3
 |[],_,_,h,_=>by simp at h
 | t :: r, xs, i, h, hr => by
  rw[RowP] at hr
  obtain⟨v0,v1,v2,v3,ys,rfl,ht,hr⟩:=hr
  match i with
  |0=>exact⟨v0,v1,v2,v3,rfl,rfl,rfl,rfl,ht⟩
  |i+1 =>
   obtain⟨u0,u1,u2,u3,h0,h1,h2,h3,hu⟩:=RowP.get i (by simpa using h) hr
   refine⟨u0,u1,u2,u3,?_,?_,?_,?_,hu⟩
   ·rw[show(i+1)*4=i*4+1+1+1+1 by omega];simpa using h0
   ·rw[show(i+1)*4+1=i*4+1+1+1+1+1 by omega];simpa using h1
   ·rw[show(i+1)*4+2=i*4+2+1+1+1+1 by omega];simpa using h2
   ·rw[show(i+1)*4+3=i*4+3+1+1+1+1 by omega];simpa using h3
theorem put4row{W:World}{g i:Nat}{xs:List Value}{cur:Array Value}{t:TypeId}(h:W.heap[g]?=some (.cells cur t (0,0)))(hc:CellsAt W g 0 xs)(hi:i*4+3<xs.length)(v0 v1 v2 v3:Value):∃s1 s2 s3 s4 a0 a1 a2 a3,W.setCell ⟨g,i*4,none⟩ v0=s1∧s1.setCell ⟨g,i*4+1,none⟩ v1=s2∧s2.setCell ⟨g,i*4+2,none⟩ v2=s3∧s3.setCell ⟨g,i*4+3,none⟩ v3=s4 ∧
  (W.cell? ⟨g,i*4,none⟩=some a0∧s1.cell? ⟨g,i*4+1,none⟩=some a1∧s2.cell? ⟨g,i*4+2,none⟩=some a2∧s3.cell? ⟨g,i*4+3,none⟩=some a3) ∧
  (W.frozen? ⟨g,i*4,none⟩=false∧s1.frozen? ⟨g,i*4+1,none⟩=false∧s2.frozen? ⟨g,i*4+2,none⟩=false∧s3.frozen? ⟨g,i*4+3,none⟩=false) ∧
  CellsAt s4 g 0 ((((xs.set (i*4) v0).set (i*4+1) v1).set (i*4+2) v2).set (i*4+3) v3)∧Oth g W s4:=by
 have fz:∀(j k:Nat)(V:World)(v:Value)(c:Array Value),V.heap[g]?=some (.cells c t (0,0))→(V.setCell ⟨g,j,none⟩ v).heap[g]?=some (.cells (c.set! j v) t (0,0)):=fun j k V v c hV=>by simp[World.setCell,Array.getElem?_modify,hV]
 have c1:=hc.set (j0:=i*4) v0
 have c2:=c1.set (j0:=i*4+1) v1
 have c3:=c2.set (j0:=i*4+2) v2
 have c4:=c3.set (j0:=i*4+3) v3
 simp only[Nat.zero_add] at c1 c2 c3 c4
 have h1:=fz (i*4) 0 W v0 _ h
 have h2:=fz (i*4+1) 0 _ v1 _ h1
 have h3:=fz (i*4+2) 0 _ v2 _ h2
 have e0:=hc (i*4) _ (List.getElem?_eq_getElem (by omega))
 have e1:=c1 (i*4+1) _ (List.getElem?_eq_getElem (by simp;omega))
 have e2:=c2 (i*4+2) _ (List.getElem?_eq_getElem (by simp;omega))
 have e3:=c3 (i*4+3) _ (List.getElem?_eq_getElem (by simp;omega))
 rw[Nat.zero_add] at e0 e1 e2 e3
 exact⟨_,_,_,_,_,_,_,_,rfl,rfl,rfl,rfl,⟨e0,e1,e2,e3⟩,⟨Lib.frozen_of_heap h _,Lib.frozen_of_heap h1 _,Lib.frozen_of_heap h2 _,Lib.frozen_of_heap h3 _⟩,c4,(((Oth.set W v0).trans (Oth.set _ v1)).trans (Oth.set _ v2)).trans (Oth.set _ v3)⟩
theorem TreeP.name_le{q:Nat→Prop}{w:World}{k p:Int}{n:List UInt8}{ts:List Lfc.Raw}{v0 v1 v2 v3:Value}(h:TreeP q w (.node k n p ts) v0 v1 v2 v3):n.length≤1000000:=by rw[TreeP] at h;exact h.2.2.1
theorem own_le{w:World}{base e size n c:Nat}{A:Option Addr}{xs:List Value}(h:w.ownsRow base e size (.slice A n c) n xs):n≤c:=by
 rcases h.2 with⟨_,h2⟩ | ⟨g,cap,cur,hv,_,_,hnc,_⟩
 ·omega
 ·injection hv with _ _ e3
  omega
theorem TreesAtP.drew{q:Nat→Prop}{w:World}{A:Option Addr}{ts:List Lfc.Raw}(h:TreesAtP q w A ts):TreesAtP q w.drew A ts :=
 TreesAtP.keep (w:=w) (w':=w.drew) (fun _ _ _=>rfl) (Nat.le_refl w.heap.size) (fun _ _ h=>h) h
end Go.Proofs.YthajalgkjonaaaaGreatDoor
namespace Go.Proofs.YthajalgkjonaaaaGreatDoor
open Go.RowKit Go.Maps Go.WideMaps
set_option maxRecDepth 100000 in
set_option maxHeartbeats 2000000 in
theorem sclone_any(q:Nat→Prop)(ts:List Lfc.Raw)(A:Option Addr)(c:Nat)(w:World)(hl:ts.length≤1000000000)(h:TreesAtP q w A ts) :
  Calls Tryz.prog 98 #[.slice A ts.length c] w fun e w'=>∃A' c' xs,e=.returned (.slice A' ts.length c')∧Hid (w'.ownsRow w.heap.size 46 4 (.slice A' ts.length c') ts.length xs)∧Hid (RowP (fun b=>q b∧b<w.heap.size) w' ts xs)∧Below w.heap.size w w':=by
 obtain⟨i0,hi,hz0,hz1,hz2⟩:=raw_info
 rcases A with _ | A
 ·have hts:ts=[]:=by
   by_cases e:ts=[]
   ·exact e
   ·obtain⟨b,o,hA,_⟩:=h e;cases hA
  subst hts
  simp only[List.length_nil] at *
  have hnil:∀W:World,(binOp .eql 32 (.slice none 0 c) (.slice none 0 0)).run Tryz.prog W=.ok (.bool true) W:=fun _=>rfl
  clear h
  go_enter Tryz.func98,Tryz.ntmps98
  go_wp2_with fail
  go_ret
  exact⟨none,0,[],rfl,Lib.hid (own_nil _ _ _ _),Lib.hid (by rw[RowP]),Below.refl _ _⟩
 ·obtain⟨xs,hrow,hcells,hx⟩:∃xs,RowP (fun b=>q b∧b<w.heap.size) w ts xs∧(∀j u,xs[j]?=some u→w.cell? (A.add j)=some u)∧xs.length=ts.length*4:=by
   by_cases e:ts=[]
   ·subst e
    exact⟨[],by rw[RowP],fun j u hj=>by simp at hj,by simp⟩
   ·obtain⟨b,o,hA,hb,hqb,hT⟩:=h e
    cases hA
    obtain⟨xs,hr,hc⟩:=hT.row
    exact⟨xs,hr.keep (fun _ _ _=>rfl) (Nat.le_refl _) (fun b hlt hb=>⟨hb,hlt⟩),cellsAdd hc,by have:=hr.len;omega⟩
  have hone:=hrow.ones
  have hlm:0+ts.length≤maxLen:=by unfold maxLen;omega
  have hl56:(0+ts.length)*56≤140737488355328:=by omega
  have HROW:=Lib.hid hrow
  have hown0:(w.alloc (.cells #[] 46)).ownsRow w.heap.size 46 4 (.slice (some ⟨w.heap.size,0,none⟩) 0 0) 0 [] :=
   ⟨rfl,.inr ⟨w.heap.size,0,#[],rfl,Nat.le_refl _,heap_alloc_new _ _,Nat.le_refl _,by unfold maxLen;omega,rfl,rfl⟩⟩
  have hc2:∀j u,xs[j]?=some u→(w.alloc (.cells #[] 46)).cell? (A.add j)=some u:=fun j u hj=>by
   have h1:=hcells j u hj
   have h2:(A.add j).block<w.heap.size:=by
    rcases Nat.lt_or_ge (A.add j).block w.heap.size with h3 | h3
    ·exact h3
    ·unfold World.cell? at h1;rw[Array.getElem?_eq_none h3] at h1;cases h1
   rw[World.cell?_of_block (Lib.alloc_old w _ _ h2)];exact h1
  have HOWN:=Lib.hid hown0
  have HC2:=Lib.hid hc2
  have b1:Below w.heap.size w (w.alloc (.cells #[] 46)):=(Below.refl _ _).alloc (Nat.le_refl _) _
  have hnil:∀W:World,(binOp .eql 32 (.slice (some A) ts.length c) (.slice none 0 0)).run Tryz.prog W=.ok (.bool false) W:=fun _=>rfl
  clear h hrow hcells hown0 hc2
  go_enter Tryz.func98,Tryz.ntmps98
  go_wp2_with (at_builtin;refine wpList_append_own_at _ rfl _ _ 32 rfl w.heap.size 46 i0 (.agg #[.int .i64 0,S [],.int .i64 0,.slice none 0 0]) 4 56 Tryz.underlying32 hi hz0 hz1 hz2 rfl (by decide) _ _ _ rfl HOWN.out A ts.length c xs rfl hx HC2.out hone hlm hl56 (by simp) ?_)
  intro v' w2 hown2 hg2 _ _
  obtain⟨A2,c2,rfl⟩:=own_form hown2
  have HO2:=Lib.hid hown2
  have b2:Below w.heap.size w w2:=b1.grown hg2 (by simp) (own_block_ge HOWN.out)
  have HR2:Hid (RowP (fun b=>q b∧b<w.heap.size) w2 ts xs):=Lib.hid (HROW.out.keep (fun b hb _=>b2.block b hb.2) b2.size (fun _ _ h=>h))
  clear hown2 hg2
  go_wp2_with fail
  go_ret
  exact⟨A2,c2,xs,rfl,by simpa using HO2,HR2,b2⟩
theorem TreeVP.parts4{q:Nat→Prop}{w:World}{t:Lfc.Raw}{v:Value}(h:TreeVP q w t v):∃k n p ts A c,t=.node k n p ts∧v=.agg #[.int .i64 k,S n,.int .i64 p,.slice A ts.length c]∧TreeP q w t (.int .i64 k) (S n) (.int .i64 p) (.slice A ts.length c):=by
 obtain⟨k,n,p,ts⟩:=t
 obtain⟨A,c,rfl,h1⟩:=h.open_
 exact⟨k,n,p,ts,A,c,rfl,rfl,h1⟩
def CloneUptoN(m:Nat):Prop:=∀(t:Lfc.Raw)(v:Value)(w:World)(q:Nat→Prop),t.size≤m→TreeVP q w t v →
  Calls Tryz.prog 122 #[v] w fun e w'=>(∃v',e=.returned v'∧TreeVP (fun b=>w.heap.size≤b) w' t v')∧Below w.heap.size w w'
structure CloneI(w w1:World)(q:Nat→Prop)(k p:Int)(n:List UInt8)(ts:List Lfc.Raw)(A:Option Addr)(c:Nat)(j:Nat)(xs:List Value)(wr:World):Prop where
 box:wr.heap[w.heap.size]?=some (.cells #[.int .i64 k,S n,.int .i64 p,.slice A ts.length c] 46 (0,0))
 res:wr.heap[w.heap.size+1]?=some (.cells #[.int .i64 0,S [],.int .i64 0,.slice none 0 0] 46 (0,0))
 own:wr.ownsRow (w.heap.size+2) 46 4 (.slice A ts.length c) ts.length xs
 row:RowP (fun b=>(q b∧b<w.heap.size)∨w1.heap.size≤b) wr ts xs
 bel:Below w.heap.size w wr
 size:w1.heap.size≤wr.heap.size
 fresh:RowP (fun b=>w1.heap.size≤b) wr (ts.take j) (xs.take (j*4))
theorem take_set4(ys:List Value)(j:Nat)(a b c d:Value)(h:j*4+3<ys.length):((((ys.set (j*4) a).set (j*4+1) b).set (j*4+2) c).set (j*4+3) d).take ((j+1)*4)=ys.take (j*4)++[a,b,c,d]:=by
 apply List.ext_getElem?
 intro i
 have hl:(ys.take (j*4)).length=j*4:=by rw[List.length_take];omega
 rcases Nat.lt_or_ge i (j*4) with h1 | h1
 ·rw[List.getElem?_append_left (by omega),List.getElem?_take_of_lt (by omega),List.getElem?_take_of_lt h1,List.getElem?_set_ne (by omega),List.getElem?_set_ne (by omega),List.getElem?_set_ne (by omega),List.getElem?_set_ne (by omega)]
 ·rw[List.getElem?_append_right (by omega),hl]
  rcases(show i=j*4∨i=j*4+1∨i=j*4+2∨i=j*4+3∨(j+1)*4≤i by omega) with rfl | rfl | rfl | rfl | h2
  ·rw[List.getElem?_take_of_lt (by omega),List.getElem?_set_ne (by omega),List.getElem?_set_ne (by omega),List.getElem?_set_ne (by omega),List.getElem?_set_self (by omega),Nat.sub_self];rfl
  ·rw[List.getElem?_take_of_lt (by omega),List.getElem?_set_ne (by omega),List.getElem?_set_ne (by omega),List.getElem?_set_self (by simp;omega),show j*4+1-j*4=1 by omega];rfl
  ·rw[List.getElem?_take_of_lt (by omega),List.getElem?_set_ne (by omega),List.getElem?_set_self (by simp;omega),show j*4+2-j*4=2 by omega];rfl
  ·rw[List.getElem?_take_of_lt (by omega),List.getElem?_set_self (by simp;omega),show j*4+3-j*4=3 by omega];rfl
  ·rw[List.getElem?_eq_none (by rw[List.length_take];omega),List.getElem?_eq_none (by simp;omega)]
theorem own_set4{W s4:World}{base g i n c:Nat}{xs:List Value}{v0 v1 v2 v3:Value}{s1 s2 s3:World}(h:W.ownsRow base 46 4 (.slice (some ⟨g,0,none⟩) n c) n xs)(h1:W.setCell ⟨g,i*4,none⟩ v0=s1)(h2:s1.setCell ⟨g,i*4+1,none⟩ v1=s2)(h3:s2.setCell ⟨g,i*4+2,none⟩ v2=s3)(h4:s3.setCell ⟨g,i*4+3,none⟩ v3=s4) :
  s4.ownsRow base 46 4 (.slice (some ⟨g,0,none⟩) n c) n ((((xs.set (i*4) v0).set (i*4+1) v1).set (i*4+2) v2).set (i*4+3) v3):=by
 have one:∀(V:World)(ys:List Value)(j:Nat)(v:Value),V.ownsRow base 46 4 (.slice (some ⟨g,0,none⟩) n c) n ys→(V.setCell ⟨g,j,none⟩ v).ownsRow base 46 4 (.slice (some ⟨g,0,none⟩) n c) n (ys.set j v):=fun V ys j v hV=>by
  obtain⟨hl,hr⟩:=hV
  rcases hr with⟨hv,_⟩ | ⟨g',cap,cur,hv,hbg,hg,hnc,hcm,hcs,htk⟩
  ·cases hv
  ·injection hv with e1 _ e3
   cases e1
   subst e3
   refine⟨by simpa using hl,.inr ⟨g,c,cur.set! j v,rfl,hbg,by simp[World.setCell,Array.getElem?_modify,hg],hnc,hcm,by simpa using hcs,?_⟩⟩
   rw[←htk]
   simp[Array.set!,List.take_set]
 subst h1 h2 h3 h4
 exact one _ _ _ _ (one _ _ _ _ (one _ _ _ _ (one _ _ _ _ h)))
set_option maxRecDepth 100000 in
set_option maxHeartbeats 4000000 in
theorem clone_step(m:Nat)(hm:m≤100000000)(ih:CloneUptoN m):CloneUptoN (m+1):=by
 intro t v w q hsz hv
 obtain⟨k,n,p,ts⟩:=t
 obtain⟨A,c,rfl,hp⟩:=hv.open_
 obtain⟨wa,hwa⟩:∃wa,(w.alloc (.cells #[.int .i64 k,S n,.int .i64 p,.slice A ts.length c] 46)).alloc (.cells #[.int .i64 0,S [],.int .i64 0,.slice none 0 0] 46)=wa:=⟨_,rfl⟩
 have qx:wa.heap[w.heap.size]?=some (.cells #[.int .i64 k,S n,.int .i64 p,.slice A ts.length c] 46 (0,0)):=by rw[←hwa];exact heap_alloc_old _ _ _ _ (heap_alloc_new _ _)
 have qr:wa.heap[w.heap.size+1]?=some (.cells #[.int .i64 0,S [],.int .i64 0,.slice none 0 0] 46 (0,0)):=by
  rw[←hwa]
  have:=heap_alloc_new (w.alloc (.cells #[.int .i64 k,S n,.int .i64 p,.slice A ts.length c] 46)) (.cells #[.int .i64 0,S [],.int .i64 0,.slice none 0 0] 46)
  simpa using this
 have ba:Below w.heap.size w wa:=by rw[←hwa];exact((Below.refl _ _).alloc (Nat.le_refl _) _).alloc (by simp) _
 have hsa:=eq2 (show wa.heap.size=w.heap.size+2 by rw[←hwa];simp)
 simp only[Lfc.Raw.size] at hsz
 have hlen:=Lfc.Raw.sizes_len ts
 have hnm:n.length≤1000000:=hp.name_le
 have hT0:TreesAtP (fun b=>q b∧b<w.heap.size) wa A ts:=by
  rw[TreeP] at hp
  obtain⟨_,_,_,_,A',c',hA',_,hts'⟩:=hp
  cases hA'
  exact TreesAtP.keep (w:=w) (fun b _ hlt=>ba.block b hlt) ba.size (fun b hlt hb=>⟨hb,hlt⟩) hts'
 have C1:=Lib.hid (sclone_any _ ts A c wa (by omega) hT0)
 have HQX:=Lib.hid qx
 have HQR:=Lib.hid qr
 have BA:=Lib.hid ba
 have IH:=Lib.hid ih
 obtain⟨x0,x1,x2,x3⟩:=cells4 qx
 clear qx qr ba hp ih hv hT0
 go_enter Tryz.func122,Tryz.ntmps122
 go_upto_region 1 with fail
 clear hwa
 go_wp2_with fail
 refine C1.out.mono ?_
 rintro e w1⟨A',c',xs,rfl,HO,HR,b1⟩
 have B1:=Lib.hid b1
 have hs1:=b1.size
 have qb1:=(b1.block _ (by omega)).trans HQX.out
 have f3:=Lib.frozen_of_heap qb1 3
 have y3:=Lib.cell_of_heap qb1 3
 simp at y3
 obtain⟨w2,hw2⟩:∃w2,w1.setCell ⟨w.heap.size,3,none⟩ (.slice A' ts.length c')=w2:=⟨_,rfl⟩
 have qb2:w2.heap[w.heap.size]?=some (.cells #[.int .i64 k,S n,.int .i64 p,.slice A' ts.length c'] 46 (0,0)):=by rw[←hw2];exact set3 qb1
 have o12:Oth w.heap.size w1 w2:=by rw[←hw2];exact Oth.set _ _
 have hA'lt:∀b,(Value.slice A' ts.length c').ownBlock=some b→w.heap.size+2≤b∧b<w1.heap.size:=fun b hb=>by have:=HO.out.lt b hb;omega
 have L0:Hid (CloneI w w1 q k p n ts A' c' 0 xs w2):=by
  refine Lib.hid ⟨qb2,o12.heap ((b1.block _ (by omega)).trans HQR.out) (by omega),?_,?_,Oth.below (BA.out.trans (b1.mono (by omega))) o12 (Nat.le_refl _) (by omega),o12.size,by rw[List.take_zero,Nat.zero_mul,List.take_zero,RowP]⟩
  ·have h:=HO.out.kept o12 (Or.inr (fun e=>by have:=hA'lt _ e;omega))
   refine⟨h.1,?_⟩
   rcases h.2 with hn | ⟨g,cap,cur,hv,hbg,rest⟩
   ·exact .inl hn
   ·exact .inr ⟨g,cap,cur,hv,by omega,rest⟩
  ·exact HR.out.keep (fun b hb hlt=>o12.block b hlt (fun e=>by have:=Option.some.inj e;have:=hb.1.2;omega)) o12.size (fun b _ hb=>.inl hb.1)
 have hcl:ts.length≤c':=own_le HO.out
 obtain⟨z0,z1,z2,z3⟩:=cells4 qb2
 have HAL:=Lib.hid hA'lt
 clear qb1 qb2 b1 o12 HO HR hA'lt x0 x1 x2 x3
 go_upto_region 2 with fail
 clear hw2 f3 y3
 go_wp2_with fail
 go_loopw [12] (fun i wr=>∃j:Nat,j≤ts.length∧i=.int .i64 j∧∃ys,Hid (CloneI w w1 q k p n ts A' c' j ys wr)) (fun i _=>ts.length-(intOf i).toNat)
 case atStart=>exact⟨0,by omega,rfl,xs,L0⟩
 case round =>
  obtain⟨j,hj,rfl,ys,HI⟩:=hrel
  by_cases hlt:j<ts.length
  ·obtain⟨g,cap,cur,hvg,hgb,hgh⟩:∃g cap cur,A'=some ⟨g,0,none⟩∧w.heap.size+2≤g∧wr.heap[g]?=some (.cells cur 46 (0,0)):=by
    rcases HI.out.own.2 with⟨_,h2⟩ | ⟨g,cap,cur,hv,hbg,hg,_⟩
    ·omega
    ·injection hv with e1 _ e3
     exact⟨g,cap,cur,e1,hbg,hg⟩
   subst hvg
   have hgl:=(HAL.out g rfl).2
   have hcat:=own_cells HI.out.own
   have hrow:=HI.out.row
   have hxl:=hrow.len
   obtain⟨v0,v1,v2,v3,hx0,hx1,hx2,hx3,htp⟩:=hrow.get j hlt
   have ht0:=htp
   obtain⟨k1,n1,p1,us,hnode⟩:∃k1 n1 p1 us,ts[j]=.node k1 n1 p1 us:=by cases ts[j] with | node a b c d=>exact⟨a,b,c,d,rfl⟩
   rw[hnode,TreeP] at htp
   obtain⟨rfl,rfl,_,rfl,A1,c1,rfl,_⟩:=htp
   have d0:=hcat _ _ hx0
   have d1:=hcat _ _ hx1
   have d2:=hcat _ _ hx2
   have d3:=hcat _ _ hx3
   simp only[Nat.zero_add] at d0 d1 d2 d3
   have hszi:=Lfc.Raw.sizes_mem ts ts[j] (List.getElem_mem _)
   obtain⟨w3,hw3⟩:∃w3,wr.alloc (.cells #[.int .i64 k1,S n1,.int .i64 p1,.slice A1 us.length c1] 46)=w3:=⟨_,rfl⟩
   have b3:Below wr.heap.size wr w3:=by rw[←hw3];exact(Below.refl _ _).alloc (Nat.le_refl _) _
   have q3:w3.heap[wr.heap.size]?=some (.cells #[.int .i64 k1,S n1,.int .i64 p1,.slice A1 us.length c1] 46 (0,0)):=by rw[←hw3];exact heap_alloc_new _ _
   have hrs:=HI.out.size
   have hbox:=lt_of_block HI.out.box
   have hres:=lt_of_block HI.out.res
   have hgr:g<wr.heap.size:=lt_of_block hgh
   have hs3:=b3.size
   have h3s:=lt_of_block q3
   have htv:TreeVP (fun b=>(q b∧b<w.heap.size)∨w1.heap.size≤b) w3.drew ts[j] (.agg #[.int .i64 k1,S n1,.int .i64 p1,.slice A1 us.length c1]):=⟨_,_,_,_,rfl,TreeP.keep (w:=wr) (w':=w3.drew) (fun b _ hb=>b3.block b hb) b3.size (fun _ _ h=>h) _ _ _ _ _ ht0⟩
   have HIH:=Lib.hid (IH.out ts[j] _ w3.drew _ (by omega) htv)
   have y3:=(b3.cell (p:=⟨w.heap.size,3,none⟩) hbox).trans (Lib.cell_of_heap HI.out.box 3)
   simp at y3
   obtain⟨e0,e1,e2,e3⟩:=cells4 q3
   have hi0:(0:Int)≤(j:Int):=Int.natCast_nonneg _
   have hi1:(j:Int)<(ts.length:Int):=by omega
   have hi3:j*4+3<ys.length:=by omega
   have HB3:=Lib.hid b3
   have HQ3:=Lib.hid q3
   have HGH:=Lib.hid hgh
   have HCAT:=Lib.hid hcat
   have HW3:=Lib.hid hw3
   have HX:=Lib.hid (And.intro hx0 hnode)
   clear hrow hcat hgh ht0 htv hx0 hx1 hx2 hx3 hw3 q3 b3 hnode z0 z1 z2 z3
   go_upto_region 5 with fail
   rw[HW3.out]
   go_region_held3 (fun W=>W.cell? ⟨w.heap.size,3,none⟩=some (.slice (some ⟨g,0,none⟩) ts.length c')∧W.cell? ⟨wr.heap.size,0,none⟩=some (.int .i64 k1)∧W.cell? ⟨wr.heap.size,1,none⟩=some (S n1)∧W.cell? ⟨wr.heap.size,2,none⟩=some (.int .i64 p1)∧W.cell? ⟨wr.heap.size,3,none⟩=some (.slice A1 us.length c1))
    (first | exact⟨y3,e0,e1,e2,e3⟩ | exact⟨hy5,cells4 hq5⟩ | exact⟨hy4,cells4 hq4⟩)
    (first | (go_at_call 122;refine HIH.out.mono ?_;rintro e w5⟨⟨v5,rfl,hv5⟩,b5⟩;obtain⟨k5,n5,p5,us5,A5,c5,ht5,rfl,hp5⟩:=hv5.parts4;have hy5:=(b5.cell (p:=⟨w.heap.size,3,none⟩) (Nat.lt_of_lt_of_le hbox hs3)).trans y3;have hq5:=(b5.block _ h3s).trans HQ3.out;obtain⟨s1,s2,s3,s4,a0,a1,a2,a3,h1,h2,h3,h4,⟨m0,m1,m2,m3⟩,⟨f0,f1,f2,f3⟩,hc4,ho4⟩:=put4row ((b5.block g (Nat.lt_of_lt_of_le hgr hs3)).trans ((HB3.out.block g hgr).trans HGH.out)) (fun j u hj=>(b5.cell (p:=⟨g,_,none⟩) (Nat.lt_of_lt_of_le hgr hs3)).trans ((HB3.out.cell (p:=⟨g,_,none⟩) hgr).trans (HCAT.out j u hj))) hi3 (.int .i64 k5) (S n5) (.int .i64 p5) (.slice A5 us5.length c5);have hq4:=ho4.heap hq5 (by omega);have hy4:=(ho4.cell (p:=⟨w.heap.size,3,none⟩) (Nat.lt_of_lt_of_le (Nat.lt_of_lt_of_le hbox hs3) b5.size) (by show w.heap.size≠g;omega)).trans hy5))
   all_goals
    have b35:Below w3.heap.size w3 w5:=(Below.refl w3.heap.size w3).drew.trans b5
    have hs5:=b35.size
    have HNEW:Hid (CloneI w w1 q k p n ts (some ⟨g,0,none⟩) c' (j+1) ((((ys.set (j*4) (.int .i64 k5)).set (j*4+1) (S n5)).set (j*4+2) (.int .i64 p5)).set (j*4+3) (.slice A5 us5.length c5)) s4):=by
     have k1:∀b,b<wr.heap.size→w5.heap[b]?=wr.heap[b]?:=fun b hb=>(b35.block b (by omega)).trans (HB3.out.block b hb)
     have hbel:Below wr.heap.size wr w5:=HB3.out.trans (b35.mono hs3)
     refine Lib.hid ⟨ho4.heap ((k1 _ hbox).trans HI.out.box) (by omega),ho4.heap ((k1 _ hres).trans HI.out.res) (by omega),?_,?_,Oth.below (HI.out.bel.trans (hbel.mono (by omega))) ho4 (by omega) (by omega),by have:=ho4.size;omega,?_⟩
     ·exact own_set4 (own_below HI.out.own hbel) h1 h2 h3 h4
     ·have hr:RowP (fun b=>(q b∧b<w.heap.size)∨w1.heap.size≤b) s4 ts ys:=HI.out.row.keep (fun b hb hlt=>(ho4.block b (by omega) (fun e=>by have:=Option.some.inj e;rcases hb with hb | hb <;> omega)).trans (k1 b hlt)) (by have:=ho4.size;omega) (fun _ _ h=>h)
      have ht:TreeP (fun b=>(q b∧b<w.heap.size)∨w1.heap.size≤b) s4 ts[j] (.int .i64 k5) (S n5) (.int .i64 p5) (.slice A5 us5.length c5):=TreeP.keep (fun b hb hlt=>ho4.block b hlt (fun e=>by
        have:=Option.some.inj e
        have hb:w3.heap.size≤b:=hb
        omega)) ho4.size (fun b _ hb=>by
        have hb:w3.heap.size≤b:=hb
        exact .inr (by omega)) _ _ _ _ _ hp5
      have:=RowP.set ht j hlt hr
      rwa[List.set_getElem_self] at this
     ·have hr:RowP (fun b=>w1.heap.size≤b) s4 (ts.take j) (ys.take (j*4)):=HI.out.fresh.keep (fun b hb hlt=>(ho4.block b (by omega) (fun e=>by have:=Option.some.inj e;omega)).trans (k1 b hlt)) (by have:=ho4.size;omega) (fun _ _ h=>h)
      have ht:TreeP (fun b=>w1.heap.size≤b) s4 ts[j] (.int .i64 k5) (S n5) (.int .i64 p5) (.slice A5 us5.length c5):=TreeP.keep (fun b hb hlt=>ho4.block b hlt (fun e=>by
        have:=Option.some.inj e
        have hb:w3.heap.size≤b:=hb
        omega)) ho4.size (fun b _ hb=>by
        have hb:w3.heap.size≤b:=hb
        omega) _ _ _ _ _ hp5
      rw[take_set4 _ _ _ _ _ _ hi3,List.take_succ_eq_append_getElem hlt]
      exact RowP.append (RowP.one ht) hr
    clear hp5 hc4 ho4 hv5
    go_wp2_with fail
    go_roundw
    case rel=>exact⟨j+1,by omega,by go_num,_,HNEW⟩
    case measure=>simp[intOf];omega
  ·obtain⟨x0,x1,x2,x3⟩:=cells4 HI.out.box
   obtain⟨s1,s2,s3,s4,g1,g2,g3,g4,⟨y0,y1,y2,y3⟩,⟨f0,f1,f2,f3⟩,hq',ho'⟩:=put4 HI.out.res (.int .i64 k) (S n) (.int .i64 p) (.slice A' ts.length c')
   have HQ':=Lib.hid hq'
   have HO':=Lib.hid ho'
   have hbox:=lt_of_block HI.out.box
   have hres:=lt_of_block HI.out.res
   clear hq' ho' z0 z1 z2 z3
   go_wp2_with fail
   refine bodyPost_ret (results_raw rfl _ _ _ _ _ _ _ rfl HQ'.out) rfl ?_
   refine⟨⟨_,rfl,TreeVP.mk hnm hcl ?_⟩,Oth.below HI.out.bel HO'.out (by omega) (by omega)⟩
   rcases HI.out.own.2 with⟨_,h2⟩ | ⟨g,cap,cur,hv,hbg,hg,_⟩
   ·exact fun hne=>absurd (List.length_eq_zero_iff.1 h2) hne
   ·injection hv with e1 _ e3
    subst e1 e3
    have hrs:=HI.out.size
    have hfr:=HI.out.fresh
    rw[show j=ts.length by omega,List.take_length,List.take_of_length_le (by have:=HI.out.row.len;omega)] at hfr
    have hr:RowP (fun b=>w.heap.size≤b) s4 ts ys:=hfr.keep (fun b hb hlt=>HO'.out.block b hlt (fun e=>by have:=Option.some.inj e;omega)) HO'.out.size (fun b _ hb=>by omega)
    have hc:CellsAt s4 g 0 ys:=fun j u hj=>(World.cell?_of_block (HO'.out.block g (lt_of_block hg) (fun e=>by have:=Option.some.inj e;omega))).trans (own_cells HI.out.own j u hj)
    exact fun _=>⟨g,0,rfl,Nat.lt_of_lt_of_le (lt_of_block hg) HO'.out.size,by omega,hr.lie hc⟩
theorem clone_new:∀m,m≤100000000→CloneUptoN m
 |0,_=>fun t v w q h _=>by have:=t.size_pos;omega
 |m+1,h=>clone_step m (by omega) (clone_new m (by omega))
def CloneUpto(m:Nat):Prop:=∀(t:Lfc.Raw)(v:Value)(w:World)(q:Nat→Prop),t.size≤m→TreeVP q w t v →
  Calls Tryz.prog 122 #[v] w fun e w'=>(∃v',e=.returned v'∧TreeVP (fun b=>q b∨w.heap.size≤b) w' t v')∧Below w.heap.size w w'
theorem clone_any(m:Nat)(h:m≤100000000):CloneUpto m:=fun t v w q hs hv=>(clone_new m h t v w q hs hv).mono fun _ _ ⟨⟨v',e,v0,v1,v2,v3,ev,hp⟩,hb⟩=>⟨⟨v',e,v0,v1,v2,v3,ev,TreeP.keep (fun _ _ _=>rfl) (Nat.le_refl _) (fun _ _ hb=>.inr hb) _ _ _ _ _ hp⟩,hb⟩
theorem clone_weak(q':Nat→Prop)(m:Nat)(h:m≤100000000)(t:Lfc.Raw)(v:Value)(w:World)(q:Nat→Prop)(hs:t.size≤m)(hv:TreeVP q w t v) :
  Calls Tryz.prog 122 #[v] w fun e w'=>(∃v',e=.returned v'∧TreeVP (fun b=>q' b∨w.heap.size≤b) w' t v')∧Below w.heap.size w w':=(clone_new m h t v w q hs hv).mono fun _ _ ⟨⟨v',e,v0,v1,v2,v3,ev,hp⟩,hb⟩=>⟨⟨v',e,v0,v1,v2,v3,ev,TreeP.keep (fun _ _ _=>rfl) (Nat.le_refl _) (fun _ _ hb=>.inr hb) _ _ _ _ _ hp⟩,hb⟩
end Go.Proofs.YthajalgkjonaaaaGreatDoor
namespace Go.Proofs.YthajalgkjonaaaaGreatDoor
open Go.RowKit Go.Maps Go.WideMaps
def opZ:Lfc.Op:=⟨[],0,0⟩
def opElem(v:Value):Option (DataW Unit × List MemPlace) :=
 match v with
 |.agg ⟨[.string s,.int .i64 a,.int .i64 b]⟩=>some (.agg [.lit (.string s.data.toList),.lit (.int .i64 a),.lit (.int .i64 b)],[])
 |_=>none
def opD(o:Lfc.Op):DataW Unit:=.agg [.lit (.string o.name),.lit (.int .i64 o.fix),.lit (.int .i64 o.prec)]
theorem opElem_mk(o:Lfc.Op):opElem (opV o)=some (opD o,[]):=by simp[opElem,opV,opD]
theorem opElem_inv{v:Value}{z:DataW Unit × List MemPlace}(h:opElem v=some z):∃o,v=opV o∧z=(opD o,[]):=by
 unfold opElem at h
 split at h
 ·rename_i s a b
  cases h
  exact⟨⟨s.data.toList,a,b⟩,by simp[opV],by simp[opD]⟩
 ·cases h
theorem opD_inj{o o':Lfc.Op}(h:opD o=opD o'):o=o':=by
 obtain⟨n,f,p⟩:=o
 obtain⟨n',f',p'⟩:=o'
 simp[opD] at h
 obtain⟨h1,h2,h3⟩:=h
 rw[h1,h2,h3]
def OpMap(w:World)(Mb N:Nat)(g:List UInt8→Option Lfc.Op):Prop:=∃D:DataW Unit,w.ownsMap Tryz.prog 9 opElem Mb N D∧∀n:List UInt8,D.atKey (.string n) (opD opZ)=opD ((g n).getD opZ)∧Maps.has D (.string n)=(g n).isSome
theorem keyOf_name2(n:List UInt8)(hn:n.length≤1000000):keyOf Tryz.prog 9 (S n)=some (.string n):=by
 simpa using keyOf_string_mk (P:=Tryz.prog) Tryz.underlying9 (s:=⟨n.toArray⟩) (by simp[ByteArray.size];unfold maxLen;omega)
theorem OpMap.look{w:World}{Mb N:Nat}{g:List UInt8→Option Lfc.Op}(h:OpMap w Mb N g)(n:List UInt8)(hn:n.length≤1000000) :
  (Instr.lookup 172 (.map (some Mb)) (S n) true).run Tryz.prog w=.ok (.tuple #[opV ((g n).getD opZ),.bool (g n).isSome]) w:=by
 obtain⟨D,hown,hD⟩:=h
 obtain⟨v,ps,hrun,hv⟩:=hown.look_ok (string_keyed Tryz.underlying9) Tryz.underlying172 (z:=opV opZ) (by kernel_rfl) (opElem_mk opZ) (keyOf_name2 n hn)
 rw[(hD n).1] at hv
 obtain⟨o,rfl,hz⟩:=opElem_inv hv
 simp only[Prod.mk.injEq] at hz
 rw[(hD n).2,←opD_inj hz.1] at hrun
 exact hrun
theorem OpMap.made(w:World):OpMap (w.alloc (.map #[] 0)) w.heap.size 0 (fun _=>none) :=
 ⟨.map [],World.ownsMap_made _ _ _ _,fun n=>⟨rfl,rfl⟩⟩
theorem OpMap.kept{w w':World}{Mb N:Nat}{g:List UInt8→Option Lfc.Op}{row:Option Nat}(h:OpMap w Mb N g)(hg:w.grownBy w' row)(hne:some Mb≠row):OpMap w' Mb N g:=by
 obtain⟨D,hown,hD⟩:=h
 exact⟨D,hown.kept hg hne,hD⟩
theorem OpMap.lt{w:World}{Mb N:Nat}{g:List UInt8→Option Lfc.Op}(h:OpMap w Mb N g):Mb<w.heap.size:=by
 obtain⟨D,hown,_⟩:=h
 exact hown.lt
theorem OpMap.put{w:World}{Mb N:Nat}{g:List UInt8→Option Lfc.Op}(h:OpMap w Mb N g)(hN:N≤1000000000)(n:List UInt8)(hn:n.length≤1000000)(o:Lfc.Op) :
  ∃w',(Instr.mapUpdate 172 (.map (some Mb)) (S n) (opV o)).run Tryz.prog w=.ok () w'∧OpMap w' Mb (N+1) (fun x=>if x=n then some o else g x)∧Oth Mb w w':=by
 obtain⟨D,hown,hD⟩:=h
 obtain⟨w',hrun,hown',hturn⟩:=hown.store (string_keyed Tryz.underlying9) Tryz.underlying172 (by unfold maxLen;omega) (keyOf_name2 n hn) (opElem_mk o)
 refine⟨w',hrun,⟨_,hown',fun x=>?_⟩,hturn.grown⟩
 by_cases e:x=n
 ·subst e
  rw[atKey_put_same hown.isMap (by simp[WideAt.IsKeyLit]),has_put_same hown.isMap (by simp[WideAt.IsKeyLit])]
  simp
 ·rw[atKey_put_other (by simpa using e),has_put_other (by simpa using e)]
  simp only[if_neg e]
  exact hD x
theorem OpMap.congr{w:World}{Mb N:Nat}{g g':List UInt8→Option Lfc.Op}(h:OpMap w Mb N g)(e:∀n,g n=g' n):OpMap w Mb N g':=by
 obtain rfl:g=g':=funext e
 exact h
theorem look_succ(l:List Lfc.Op)(j:Nat)(h:j<l.length)(n:List UInt8):Lfc.look (l.take (j+1)) n=if Lfc.look (l.take j) l[j].name=none∧n=l[j].name then some l[j] else Lfc.look (l.take j) n:=by
 by_cases h1:n=Lfc.arrR
 ·have e:∀L,Lfc.look L n=some ⟨[],5,-1⟩:=fun L=>by unfold Lfc.look;rw[if_pos h1]
  rw[e,e,if_neg]
  rintro⟨ha,hb⟩
  rw[←hb,e] at ha
  cases ha
 by_cases h2:n=Lfc.arrL
 ·have e:∀L,Lfc.look L n=some ⟨[],4,-1⟩:=fun L=>by unfold Lfc.look;rw[if_neg h1,if_pos h2]
  rw[e,e,if_neg]
  rintro⟨ha,hb⟩
  rw[←hb,e] at ha
  cases ha
 have e:∀L,Lfc.look L n=L.find? (fun o=>decide (o.name=n)):=fun L=>by unfold Lfc.look;rw[if_neg h1,if_neg h2]
 rw[e,List.take_succ_eq_append_getElem h,List.find?_append]
 by_cases h3:n=l[j].name
 ·rw[←h3,e]
  cases hf:(l.take j).find? (fun o=>decide (o.name=n)) with
  |none=>simp[h3]
  |some o=>simp
 ·rw[if_neg (fun hc=>h3 hc.2),e]
  have:[l[j]].find? (fun o=>decide (o.name=n))=none:=by simp[Ne.symm h3]
  rw[this];simp
structure EnvR(w0:World)(Rb Mb:Nat)(l:List Lfc.Op)(w:World):Prop where
 rge:w0.heap.size≤Rb
 ne:Mb≠Rb
 bel:Below w0.heap.size w0 w
 cells:∃bad:Int,w.heap[Rb]?=some (.cells #[.map (some Mb),.int .i64 bad] 174 (0,0))
 map:∃N,OpMap w Mb N (Lfc.look l)
theorem EnvR.new{w0 w w':World}{Rb Mb:Nat}{l:List Lfc.Op}(h:EnvR w0 Rb Mb l w)(hb:Below w.heap.size w w'):EnvR w0 Rb Mb l w':=by
 obtain⟨bad,hc⟩:=h.cells
 obtain⟨N,hm⟩:=h.map
 exact⟨h.rge,h.ne,h.bel.trans (hb.mono h.bel.size),⟨bad,(hb.block _ (lt_of_block hc)).trans hc⟩,⟨N,hm.kept (Oth.of_below (T:=Rb) hb) (fun e=>h.ne (Option.some.inj e))⟩⟩
theorem EnvR.oth{w0 w w':World}{Rb Mb:Nat}{l:List Lfc.Op}(h:EnvR w0 Rb Mb l w)(ho:Oth Rb w w'){bad:Int}(hc:w'.heap[Rb]?=some (.cells #[.map (some Mb),.int .i64 bad] 174 (0,0))):EnvR w0 Rb Mb l w':=by
 obtain⟨N,hm⟩:=h.map
 exact⟨h.rge,h.ne,Oth.below h.bel ho h.rge h.bel.size,⟨bad,hc⟩,⟨N,hm.kept ho (fun e=>h.ne (Option.some.inj e))⟩⟩
theorem EnvR.lt{w0 w:World}{Rb Mb:Nat}{l:List Lfc.Op}(h:EnvR w0 Rb Mb l w):Rb<w.heap.size:=by
 obtain⟨bad,hc⟩:=h.cells
 exact lt_of_block hc
theorem EnvR.m0{w0 w:World}{Rb Mb:Nat}{l:List Lfc.Op}(h:EnvR w0 Rb Mb l w):w.cell? ⟨Rb,0,none⟩=some (.map (some Mb)):=by
 obtain⟨bad,hc⟩:=h.cells
 exact Lib.cell_of_heap hc 0
theorem op_size:(Tryz.prog.info? 34).map (·.size)=some 3:=by kernel_rfl
theorem results_raw2{fn:Func}{p u:Tmp}(h:fn.results=#[.cell p 46,.tmp u])(tmps:Array Value)(w:World)(g:Nat)(v0 v1 v2 v3:Value)(hp:tmps.getD p undef=.pointer (some ⟨g,0,none⟩))(hg:w.heap[g]?=some (.cells #[v0,v1,v2,v3] 46 (0,0))) :
  (results fn tmps).run Tryz.prog w=.ok (.tuple #[.agg #[v0,v1,v2,v3],tmps.getD u undef]) w:=by
 rw[results_cell_tmp h,hp]
 simp[asAddr,run_loadVar_row w g _ _ _ _ _ hg Tryz.underlying46 rfl raw_size,Result.andThen]
theorem results_op2{fn:Func}{p u:Tmp}(h:fn.results=#[.cell p 34,.tmp u])(tmps:Array Value)(w:World)(g:Nat)(v0 v1 v2:Value)(hp:tmps.getD p undef=.pointer (some ⟨g,0,none⟩))(hg:w.heap[g]?=some (.cells #[v0,v1,v2] 34 (0,0))) :
  (results fn tmps).run Tryz.prog w=.ok (.tuple #[.agg #[v0,v1,v2],tmps.getD u undef]) w:=by
 rw[results_cell_tmp h,hp]
 simp[asAddr,run_loadVar_row w g _ _ _ _ _ hg Tryz.underlying34 rfl op_size,Result.andThen]
theorem results_op3{fn:Func}{t p u:Tmp}(h:fn.results=#[.tmp t,.cell p 34,.tmp u])(tmps:Array Value)(w:World)(g:Nat)(v0 v1 v2:Value)(hp:tmps.getD p undef=.pointer (some ⟨g,0,none⟩))(hg:w.heap[g]?=some (.cells #[v0,v1,v2] 34 (0,0))) :
  (results fn tmps).run Tryz.prog w=.ok (.tuple #[tmps.getD t undef,.agg #[v0,v1,v2],tmps.getD u undef]) w:=by
 have hp':tmps[p]?.getD undef=.pointer (some ⟨g,0,none⟩):=by simpa using hp
 simp[results,h,hp',asAddr,run_loadVar_row w g _ _ _ _ _ hg Tryz.underlying34 rfl op_size]
theorem put3{W:World}{R:Nat}{a0 a1 a2:Value}{t:TypeId}(h:W.heap[R]?=some (.cells #[a0,a1,a2] t (0,0)))(v0 v1 v2:Value):∃s1 s2 s3,W.setCell ⟨R,0,none⟩ v0=s1∧s1.setCell ⟨R,1,none⟩ v1=s2∧s2.setCell ⟨R,2,none⟩ v2=s3 ∧
  (W.cell? ⟨R,0,none⟩=some a0∧s1.cell? ⟨R,1,none⟩=some a1∧s2.cell? ⟨R,2,none⟩=some a2) ∧
  (W.frozen? ⟨R,0,none⟩=false∧s1.frozen? ⟨R,1,none⟩=false∧s2.frozen? ⟨R,2,none⟩=false) ∧
  s3.heap[R]?=some (.cells #[v0,v1,v2] t (0,0))∧Oth R W s3:=by
 obtain⟨s1,h1⟩:∃s1,W.setCell ⟨R,0,none⟩ v0=s1:=⟨_,rfl⟩
 obtain⟨s2,h2⟩:∃s2,s1.setCell ⟨R,1,none⟩ v1=s2:=⟨_,rfl⟩
 obtain⟨s3,h3⟩:∃s3,s2.setCell ⟨R,2,none⟩ v2=s3:=⟨_,rfl⟩
 have q1:s1.heap[R]?=some (.cells #[v0,a1,a2] t (0,0)):=by rw[←h1];simp[World.setCell,Array.getElem?_modify,h]
 have q2:s2.heap[R]?=some (.cells #[v0,v1,a2] t (0,0)):=by rw[←h2];simp[World.setCell,Array.getElem?_modify,q1]
 have q3:s3.heap[R]?=some (.cells #[v0,v1,v2] t (0,0)):=by rw[←h3];simp[World.setCell,Array.getElem?_modify,q2]
 refine⟨s1,s2,s3,h1,h2,h3,⟨Lib.cell_of_heap h 0,Lib.cell_of_heap q1 1,Lib.cell_of_heap q2 2⟩,⟨Lib.frozen_of_heap h 0,Lib.frozen_of_heap q1 1,Lib.frozen_of_heap q2 2⟩,q3,?_⟩
 rw[←h3,←h2,←h1]
 exact((Oth.set W v0).trans (Oth.set _ v1)).trans (Oth.set _ v2)
theorem cells3{W:World}{g:Nat}{v0 v1 v2:Value}{t:TypeId}(h:W.heap[g]?=some (.cells #[v0,v1,v2] t (0,0))):W.cell? ⟨g,0,none⟩=some v0∧W.cell? ⟨g,1,none⟩=some v1∧W.cell? ⟨g,2,none⟩=some v2 :=
 ⟨Lib.cell_of_heap h 0,Lib.cell_of_heap h 1,Lib.cell_of_heap h 2⟩
set_option maxRecDepth 100000 in
set_option maxHeartbeats 2000000 in
theorem fail_any(w0:World)(Rb Mb:Nat)(l:List Lfc.Op)(e:Int)(w:World)(h:EnvR w0 Rb Mb l w) :
  Calls Tryz.prog 167 #[.pointer (some ⟨Rb,0,none⟩),.int .i64 e] w fun x w'=>x=.returned (.tuple #[.agg #[.int .i64 0,S [],.int .i64 0,.slice none 0 0],.bool false])∧w'.heap[Rb]?=some (.cells #[.map (some Mb),.int .i64 e] 174 (0,0))∧Oth Rb w w':=by
 obtain⟨bad,hc⟩:=h.cells
 obtain⟨wa,hwa⟩:∃wa,w.alloc (.cells #[.int .i64 0,S [],.int .i64 0,.slice none 0 0] 46)=wa:=⟨_,rfl⟩
 have ba:Below w.heap.size w wa:=by rw[←hwa];exact(Below.refl _ _).alloc (Nat.le_refl _) _
 have qa:wa.heap[w.heap.size]?=some (.cells #[.int .i64 0,S [],.int .i64 0,.slice none 0 0] 46 (0,0)):=by rw[←hwa];exact heap_alloc_new _ _
 have hlt:=lt_of_block hc
 have hca:=(ba.block _ hlt).trans hc
 have f1:=Lib.frozen_of_heap hca 1
 have x1:=Lib.cell_of_heap hca 1
 simp at x1
 obtain⟨wb,hwb⟩:∃wb,wa.setCell ⟨Rb,1,none⟩ (.int .i64 e)=wb:=⟨_,rfl⟩
 have qb:wb.heap[Rb]?=some (.cells #[.map (some Mb),.int .i64 e] 174 (0,0)):=by rw[←hwb];simp[World.setCell,Array.getElem?_modify,hca]
 have ob:Oth Rb wa wb:=by rw[←hwb];exact Oth.set _ _
 obtain⟨s1,s2,s3,s4,g1,g2,g3,g4,⟨y0,y1,y2,y3⟩,⟨f0',f1',f2',f3'⟩,hq,ho⟩:=put4 (ob.heap qa (by omega)) (.int .i64 0) (S []) (.int .i64 0) (.slice none 0 0)
 have HQ:=Lib.hid hq
 have HO:=Lib.hid ho
 have QB:=Lib.hid qb
 have OB:=Lib.hid ob
 have BA:=Lib.hid ba
 clear hq ho qb ob ba qa hca hc h
 go_enter Tryz.func167,Tryz.ntmps167
 go_upto_region 1 with fail
 clear hwa
 go_wp2_with fail
 refine bodyPost_ret (results_raw2 rfl _ _ _ _ _ _ _ rfl HQ.out) rfl ?_
 refine⟨rfl,HO.out.heap QB.out (by omega),((Oth.of_below BA.out).trans OB.out).of_new ?_⟩
 have hs:=OB.out.size
 have hs2:=BA.out.size
 exact⟨HO.out.os,HO.out.tape,HO.out.output,HO.out.size,fun k hk=>HO.out.block k (by omega) (fun e=>by have:=Option.some.inj e;omega)⟩
end Go.Proofs.YthajalgkjonaaaaGreatDoor
