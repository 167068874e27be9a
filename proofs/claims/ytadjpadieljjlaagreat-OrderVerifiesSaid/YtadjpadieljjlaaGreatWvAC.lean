/- Parts of the proof that no input makes the law false: TmNodes, TmSize, TmWf, OrMem, OrKd, StepApp, OrRow, OrMv. -/
import Derived.RangeFuncNested
import Derived.RangeFuncBound
import Derived.RangeFuncCalls
import Derived.RangeFuncLeaves
import Derived.Shelf.RegionOpen
import Derived.OwnWalkIn
import Derived.TacticsInMore
import Derived.LoopNIn
import Derived.LoopIn
import Derived.Maps.AppendAt
import Derived.Deep.RegionLaw
import Derived.Deep.DrawnRows
import Derived.RegionTactic
import Derived.Test.YtadjpadieljjlaaGreatWvAB
set_option linter.unusedVariables false
set_option linter.unusedSimpArgs false
set_option maxRecDepth 100000
set_option maxHeartbeats 32000000
namespace Go.Proofs.YtadjpadieljjlaaGreat
section
open Go.RowKit Go.Shelf _root_.Lfc
attribute [local go_sem] Oper.semAt_some
def KpT(n1 n0:Nat)(A B:World):Prop:=Below n1 A B∧∀(b:Nat)(o:Obj),n0≤b→A.heap[b]?=some o→o.isCells=true→B.heap[b]?=some o
theorem KpT.refl(n1 n0:Nat)(W:World):KpT n1 n0 W W:=⟨zB _ _,fun _ _ _ h _=>h⟩
theorem KpT.trans{n1 n0:Nat}{A B C:World}(h:KpT n1 n0 A B)(k:KpT n1 n0 B C):KpT n1 n0 A C:=⟨h.1.trans k.1,fun b o hb ho hc=>k.2 b o hb (h.2 b o hb ho hc) hc⟩
theorem KpT.alloc{n1 n0:Nat}(W:World)(o:Obj)(h:n1≤W.heap.size):KpT n1 n0 W (W.alloc o):=⟨(zB _ _).alloc h _,fun b o' _ hb _=>(Below.heap_alloc W o b (Array.getElem?_eq_some_iff.1 hb).1).trans hb⟩
theorem KpT.setCell{n1 n0:Nat}(W:World)(b:Nat)(v:Value)(h1:n1≤b)(h0:b<n0):KpT n1 n0 W (W.setCell ⟨b,0,none⟩ v) :=
 ⟨(zB n1 W).setCell (p:=⟨b,0,none⟩) h1 _,fun k o hk ho _=>((grownBy_setCell' W b v).block k (Array.getElem?_eq_some_iff.1 ho).1 (fun e=>by cases e;omega)).trans ho⟩
theorem KpT.putObj{n1 n0:Nat}{w:World}(hn:n1≤w.heap.size)(W:World)(l:Nat)(o o':Obj)(hl:w.heap.size≤l)(h:W.heap[l]?=some o)(hc:o.isCells=false)(hw:o.isWalk=false):KpT n1 n0 W (W.putObj l o') :=
 ⟨belowK_b hn W l o o' hl h hc hw,fun b o2 hb ho hc2=>((grownBy_putObj' W l o').block b (Array.getElem?_eq_some_iff.1 ho).1 (fun e=>by cases e;rw[h] at ho;cases ho;rw[hc] at hc2;cases hc2)).trans ho⟩
theorem KpT.boxed{n1 n0:Nat}{A B:World}(h:KpT n1 n0 A B){b:Nat}{t:TypeId}{v:Value}(hb:n0≤b)(hx:Boxed A b t v):Boxed B b t v:=h.2 b _ hb hx rfl
structure TN where
 d:Nat
 t:Raw
 A:Option Addr
 c:Nat
def TN.v(x:TN):Value:=.agg #[.int .i64 x.t.kind,S x.t.name,.int .i64 x.t.pos,.slice x.A x.t.args.length x.c]
abbrev TNs(T:Raw):Type:={ x:TN // (x.d,x.t)∈T.nodes 0 }
def TNs.encs{T:Raw}(x:TNs T):Array Value:=#[.int .i64 (x.1.d:Int),x.1.v]
def TNs.ns{T:Raw}(xs:List (TNs T)):List (Nat × Raw):=xs.map fun x=>(x.1.d,x.1.t)
theorem TNs.ns_app{T:Raw}(a b:List (TNs T)):TNs.ns (a++b)=TNs.ns a++TNs.ns b:=List.map_append ..
theorem TNs.ns_len{T:Raw}(a:List (TNs T)):a.length=(TNs.ns a).length:=(List.length_map ..).symm
theorem enters_walk:∀args w,(callFunc 126 args).run Tryz.prog w=.ok (.enter 126 args) w:=enters_of Tryz.func126 (by kernel_rfl) rfl
theorem wide_room(k:Nat):Fence.wide.depth.isSome=true→1≤k:=fun h=>by cases h
theorem abides_alloc{β:Type}{B:Nat}{J:β→World→Prop}(h:AbidesFrom B J){s:β}{W:World}(o:Obj)(hs:J s W):J s (W.alloc o):=h s W _ none hs (World.grownBy_alloc W o none) (fun r e=>by cases e)
theorem yield_any{m:Nat}(m':Nat){P:Program}{l:Nat}{args:Array Value}{W:World}{R:Ending→World→Prop}(h:YieldAt Fence.wide m P l args W R):YieldAt Fence.wide m' P l args W R:=by
 obtain⟨fn,tmps,assign,body,hy,hR⟩:=h;exact⟨fn,tmps,assign,body,hy,⟨hR.1,fun c cs _=>hR.2 c cs (fun d h=>by cases h)⟩⟩
theorem nodesWalk_in(T:Raw)(N l n0 B1 B2:Nat)(w1:World)(hN:N≤1000000000)(hB1:n0≤B1)(hB2:n0≤B2)(h10:w1.heap.size≤n0)
  (J Jx:List (TNs T)→World→Prop) (hJ:∀s W o,J s W→J s (W.alloc o))
  (hY:∀k pre x W,J pre W→pre.length<N→YieldAt Fence.wide k Tryz.prog l (TNs.encs x) W fun e W' =>
   (e=.returned (.bool true)∧J (pre++[x]) W'∧KpT w1.heap.size n0 W W')∨(e=.returned (.bool false)∧Jx (pre++[x]) W')) (m:Nat) :
  ∀(t:Raw)(d k:Nat)(dI:Int)(v:Value)(pre:List (TNs T))(W:World),dI=(d:Int)→t.size≤m→(∀y∈t.nodes d,y∈T.nodes 0)→TreeV w1 t v→Below w1.heap.size w1 W →
   Boxed W B1 160 (.func (.yield l) #[] #[])→Boxed W B2 97 (.func (.func 126) #[] #[.pointer (some ⟨B1,0,none⟩),.pointer (some ⟨B2,0,none⟩)]) →
   J pre W→pre.length+t.size≤N→d+t.size≤2000000000 →
   CallsIn Fence.wide k Tryz.prog 126 #[v,.int .i64 dI,.pointer (some ⟨B1,0,none⟩),.pointer (some ⟨B2,0,none⟩)] W fun e W' =>
    (e=.returned (.bool true)∧∃xs,TNs.ns xs=t.nodes d∧J (pre++xs) W'∧KpT w1.heap.size n0 W W')∨(e=.returned (.bool false)∧∃q,TNs.ns q <+: t.nodes d∧Jx (pre++q) W'):=by
 induction m with
 |zero=>intro t d k dI v pre W _ h;have:=t.size_pos;omega
 |succ m ih =>
  intro t d k dI v pre W hdI hsz hsub hv hb bx1 bx2 hJp hlen hd;subst hdI;obtain⟨kd,nm,ps,ts⟩:=t;obtain⟨A,c,rfl,hc,hA⟩:=hv.open_;have hsz':=hsz;have hlen':=hlen;have hd':=hd;simp only[Raw.size] at hsz' hlen' hd';have hln:=Raw.sizes_len ts;have he:=enters_walk;have hself:(d,Raw.node kd nm ps ts)∈T.nodes 0:=hsub _ (by rw[Raw.nodes];exact List.mem_cons_self ..);obtain⟨W0,hW0⟩:∃W0,W.alloc (.cells #[.int .i64 kd,S nm,.int .i64 ps,.slice A ts.length c] 51)=W0:=⟨_,rfl⟩;have bxt:W0.heap[W.heap.size]?=some (.cells #[.int .i64 kd,S nm,.int .i64 ps,.slice A ts.length c] 51):=by rw[←hW0];exact World.alloc_heap_new W _
  have K0:KpT w1.heap.size n0 W W0:=by rw[←hW0];exact KpT.alloc _ _ hb.size
  have hG:n0≤W.heap.size:=zR hB1 (Nat.le_of_lt bx1.lt);obtain⟨x0,hx0⟩:∃x0:TNs T,x0=⟨⟨d,.node kd nm ps ts,A,c⟩,hself⟩:=⟨_,rfl⟩;have hns0:TNs.ns [x0]=[(d,Raw.node kd nm ps ts)]:=by rw[hx0];rfl
  have hx0e:TNs.encs x0=#[.int .i64 (d:Int),.agg #[.int .i64 kd,S nm,.int .i64 ps,.slice A ts.length c]]:=by rw[hx0];rfl
  have hy0:=hY (k-1) pre x0 W0 (by rw[←hW0];exact hJ _ _ _ hJp) (by omega);rw[hx0e] at hy0;have hc1:=(K0.boxed hB1 bx1).cell;have hq0:=zC bxt 0;have hq1:=zC bxt 1;have hq2:=zC bxt 2;have hq3:=zC bxt 3;obtain⟨fn,tmps,assign,body,hy,hR⟩:=hy0;have IH:=zH ih;have HJ:=zH hJ;have HS:=zH (fun j h y hy=>hsub y (nodes_mem d kd ps nm ts j h y hy));have HA:=zH hA;have HB:=zH (hb.trans K0.1);have HT:=zH bxt;have HB1:=zH (K0.boxed hB1 bx1);have HB2:=zH (K0.boxed hB2 bx2);have HK0:=zH K0;clear ih hY hJ hsub hv hx0 hx0e bx1 bx2 hb K0 bxt hself;refine callsIn_of_wp Tryz.func126 rfl trivial ?_ rfl;simp only[Tryz.ntmps126,List.size_toArray,List.length_cons,List.length_nil,Nat.reduceAdd,Nat.reduceSub,Array.replicate_succ,Array.replicate_zero,List.push_toArray,List.append_toArray,List.nil_append,List.cons_append];gi_wp2;generalize W.heap.size=G at *;refine⟨wide_room _,hR.mono ?_⟩;rintro e W2 (⟨rfl,hJ2,k2⟩ | ⟨rfl,hJx2⟩)
  ·have bt2:=k2.2 G _ hG HT.out rfl;have g0:=zC bt2 0;have g3:=zC bt2 3;have HK2:=zH (HK0.out.trans k2);have HT2:=zH bt2;have HC1:=zH (k2.boxed hB1 HB1.out);have HC2:=zH (k2.boxed hB2 HB2.out);have HBW:=zH (HB.out.trans k2.1);clear hR hy hc1 hq0 hq1 hq2 hq3 bt2 k2 hW0;gi_wp2
   gi_loopw [18] (fun i wr=>∃(j:Nat)(xs:List (TNs T)),j≤ts.length∧i=.int .i64 j∧TNs.ns xs=Raw.nodesL d kd 0 (ts.take j)∧Hid (J (pre++[x0]++xs) wr)∧Hid (KpT w1.heap.size n0 W2 wr)) (fun i _=>ts.length-(intOf i).toNat)
   case atStart=>exact⟨0,[],by omega,rfl,by simp[TNs.ns,Raw.nodesL],zH (by simpa using hJ2),zH (KpT.refl _ _ _)⟩
   obtain⟨j,xs,hj,rfl,hxs,HJr,HKr⟩:=hrel;have HBr:=zH (HBW.out.trans HKr.out.1);have bxr:=HKr.out.2 G _ hG HT2.out rfl;by_cases hlt:j<ts.length
   ·obtain⟨b,o,k1,n1,p1,us,D1,c1,rfl,hbb,ht,f0,f1,f2,f3,hcu,hD1,hT⟩:=HA.out.at_ hlt;have hmem:=Raw.sizes_mem ts ts[j] (Ze _);have htk:=nodesL_take d kd ts j hlt;have r0:=(HBr.out.cell (p:=⟨b,o+j*4,none⟩) hbb).trans f0;have r1:=(HBr.out.cell (p:=⟨b,o+j*4+1,none⟩) hbb).trans f1;have r2:=(HBr.out.cell (p:=⟨b,o+j*4+2,none⟩) hbb).trans f2;have r3:=(HBr.out.cell (p:=⟨b,o+j*4+3,none⟩) hbb).trans f3;obtain⟨W5,hW5⟩:∃W5,wr.alloc (.cells #[.int .i64 k1,S n1,.int .i64 p1,.slice D1 us.length c1] 51)=W5:=⟨_,rfl⟩;have K5:KpT w1.heap.size n0 wr W5:=(by rw[←hW5];exact KpT.alloc _ _ HBr.out.size);have bx5:=K5.2 G _ hG bxr rfl;have g50:=zC bx5 0;have hn5:W5.heap[wr.heap.size]?=some (.cells #[.int .i64 k1,S n1,.int .i64 p1,.slice D1 us.length c1] 51):=(by rw[←hW5];exact World.alloc_heap_new wr _);have y0:=zC hn5 0;have y1:=zC hn5 1;have y2:=zC hn5 2;have y3:=zC hn5 3;have hc2:=(K5.boxed hB2 (HKr.out.boxed hB2 HC2.out)).cell;have hlx:xs.length+ts[j].size≤Raw.sizes ts:=by
     rw[TNs.ns_len,hxs,nodesL_size];exact sizesTake ts j hlt
    have hu1:under kd j≤1:=(by unfold under;split <;> omega);have CALL:=zH (fun(u:Nat) (dI:Int) (kk:Nat) (hu:u=under kd j) (hd1:dI=((d+u:Nat):Int))=>IH.out ts[j] (d+u) kk dI _ (pre++[x0]++xs) W5 hd1 (by omega) (by rw[hu];exact HS.out j hlt) hT (HBr.out.trans K5.1) (K5.boxed hB1 (HKr.out.boxed hB1 HC1.out)) (K5.boxed hB2 (HKr.out.boxed hB2 HC2.out)) (by rw[←hW5];exact HJ.out _ _ _ HJr.out) (by simp only[Zq,List.length_cons,List.length_nil];omega) (by omega));have HTK:=zH htk;have HPRE:=zH (nodesL_pre d kd ts (j+1));clear htk hT ht hD1 hn5 bx5 bxr hmem hlx hu1;by_cases hk3:kd=3
    ·subst hk3;have HU:Hid (1=under 3 j):=zH (by simp[under]);gi_wp2;refine⟨trivial,wide_room _,(CALL.out 1 _ _ HU.out (by simp)).mono ?_⟩;rintro e W6 (⟨rfl,ys,hys,hJ6,k6⟩ | ⟨rfl,q,hq,hx6⟩)
     ·have HYS:=zH hys;have HJ6:=zH hJ6;have HK6:=zH (HKr.out.trans (K5.trans k6));clear hys hJ6 k6;gi_wp2;go_roundw;case rel =>
       exact⟨j+1,xs++ys,by omega,by go_num,by rw[TNs.ns_app,hxs,HYS.out,HTK.out,HU.out],zH (by simpa[List.append_assoc] using HJ6.out),HK6⟩
      case measure=>simp[intOf];omega
     have HQ:=zH hq;have HX6:=zH hx6;clear hq hx6;gi_wp2;go_ret;refine .inr ⟨rfl,[x0]++xs++q,?_,by simpa[List.append_assoc] using HX6.out⟩;rw[TNs.ns_app,TNs.ns_app,hns0,hxs,Raw.nodes];refine List.IsPrefix.trans ?_ ((List.prefix_append_right_inj [_]).2 HPRE.out);rw[HTK.out,List.append_assoc];refine(List.prefix_append_right_inj _).2 ((List.prefix_append_right_inj _).2 ?_);rw[←HU.out];exact HQ.out
    have hk3f:(kd == 3)=false:=(by simpa using hk3);by_cases hk2:kd=2
    ·subst hk2;by_cases hj1:j=1
     ·have HU:Hid (1=under 2 j):=zH (by simp[under,hj1]);have hj1t:((j:Int) == 1)=true:=(by simp;omega);clear hj1;gi_wp2;refine⟨trivial,wide_room _,(CALL.out 1 _ _ HU.out (by simp)).mono ?_⟩;rintro e W6 (⟨rfl,ys,hys,hJ6,k6⟩ | ⟨rfl,q,hq,hx6⟩)
      ·have HYS:=zH hys;have HJ6:=zH hJ6;have HK6:=zH (HKr.out.trans (K5.trans k6));clear hys hJ6 k6;gi_wp2;go_roundw;case rel =>
        exact⟨j+1,xs++ys,by omega,by go_num,by rw[TNs.ns_app,hxs,HYS.out,HTK.out,HU.out],zH (by simpa[List.append_assoc] using HJ6.out),HK6⟩
       case measure=>simp[intOf];omega
      have HQ:=zH hq;have HX6:=zH hx6;clear hq hx6;gi_wp2;go_ret;refine .inr ⟨rfl,[x0]++xs++q,?_,by simpa[List.append_assoc] using HX6.out⟩;rw[TNs.ns_app,TNs.ns_app,hns0,hxs,Raw.nodes];refine List.IsPrefix.trans ?_ ((List.prefix_append_right_inj [_]).2 HPRE.out);rw[HTK.out,List.append_assoc];refine(List.prefix_append_right_inj _).2 ((List.prefix_append_right_inj _).2 ?_);rw[←HU.out];exact HQ.out
     have HU:Hid (0=under 2 j):=zH (by simp[under,hj1]);have hj1f:((j:Int) == 1)=false:=(by rw[beq_eq_false_iff_ne];omega);clear hj1;gi_wp2;refine⟨trivial,wide_room _,(CALL.out 0 _ _ HU.out (by simp)).mono ?_⟩;rintro e W6 (⟨rfl,ys,hys,hJ6,k6⟩ | ⟨rfl,q,hq,hx6⟩)
     ·have HYS:=zH hys;have HJ6:=zH hJ6;have HK6:=zH (HKr.out.trans (K5.trans k6));clear hys hJ6 k6;gi_wp2;go_roundw;case rel =>
       exact⟨j+1,xs++ys,by omega,by go_num,by rw[TNs.ns_app,hxs,HYS.out,HTK.out,HU.out],zH (by simpa[List.append_assoc] using HJ6.out),HK6⟩
      case measure=>simp[intOf];omega
     have HQ:=zH hq;have HX6:=zH hx6;clear hq hx6;gi_wp2;go_ret;refine .inr ⟨rfl,[x0]++xs++q,?_,by simpa[List.append_assoc] using HX6.out⟩;rw[TNs.ns_app,TNs.ns_app,hns0,hxs,Raw.nodes];refine List.IsPrefix.trans ?_ ((List.prefix_append_right_inj [_]).2 HPRE.out);rw[HTK.out,List.append_assoc];refine(List.prefix_append_right_inj _).2 ((List.prefix_append_right_inj _).2 ?_);rw[←HU.out];exact HQ.out
    have hk2f:(kd == 2)=false:=(by simpa using hk2);have HU:Hid (0=under kd j):=zH (by simp[under,hk3,hk2]);gi_wp2;refine⟨trivial,wide_room _,(CALL.out 0 _ _ HU.out (by simp)).mono ?_⟩;rintro e W6 (⟨rfl,ys,hys,hJ6,k6⟩ | ⟨rfl,q,hq,hx6⟩)
    ·have HYS:=zH hys;have HJ6:=zH hJ6;have HK6:=zH (HKr.out.trans (K5.trans k6));clear hys hJ6 k6;gi_wp2;go_roundw;case rel =>
      exact⟨j+1,xs++ys,by omega,by go_num,by rw[TNs.ns_app,hxs,HYS.out,HTK.out,HU.out],zH (by simpa[List.append_assoc] using HJ6.out),HK6⟩
     case measure=>simp[intOf];omega
    have HQ:=zH hq;have HX6:=zH hx6;clear hq hx6;gi_wp2;go_ret;refine .inr ⟨rfl,[x0]++xs++q,?_,by simpa[List.append_assoc] using HX6.out⟩;rw[TNs.ns_app,TNs.ns_app,hns0,hxs,Raw.nodes];refine List.IsPrefix.trans ?_ ((List.prefix_append_right_inj [_]).2 HPRE.out);rw[HTK.out,List.append_assoc];refine(List.prefix_append_right_inj _).2 ((List.prefix_append_right_inj _).2 ?_);rw[←HU.out];exact HQ.out
   obtain rfl:j=ts.length:=(by omega);have HXS:=zH hxs;have HKK:=zH (HK2.out.trans HKr.out);clear hxs;gi_wp2;go_ret;refine .inl ⟨rfl,[x0]++xs,?_,by simpa[List.append_assoc] using HJr.out,HKK.out⟩;rw[TNs.ns_app,hns0,HXS.out,List.take_length,Raw.nodes];rfl
  gi_wp2;go_ret;exact .inr ⟨rfl,[x0],by rw[hns0,Raw.nodes];exact⟨_,rfl⟩,hJx2⟩
theorem enters_nodes1:∀args w,(callFunc 125 args).run Tryz.prog w=.ok (.enter 125 args) w:=enters_of Tryz.func125 (by kernel_rfl) rfl
theorem nodes_stops(n:Nat)(T:Raw)(k p:Int)(nm:List UInt8)(ts:List Raw)(A:Option Addr)(c B:Nat)(w1 w:World)(hT:T=.node k nm p ts)(hsz:T.size≤1000000000)
  (hB:w.heap[B]?=some (.cells #[.int .i64 k,S nm,.int .i64 p,.slice A ts.length c] 51)) (hb:Below w1.heap.size w1 w) (hv:TreeV w1 T (.agg #[.int .i64 k,S nm,.int .i64 p,.slice A ts.length c])) :
  SeqStopsK Fence.wide n Tryz.prog 125 #[.pointer (some ⟨B,0,none⟩)] (TNs.encs (T:=T)) (KpT w1.heap.size w.heap.size) (fun xs=>TNs.ns xs=T.nodes 0) (fun q=>TNs.ns q <+: T.nodes 0) T.size w:=by
 intro l J Jx W hW hJ hJx hY h0;have he:=enters_walk;have hBlt:=(Array.getElem?_eq_some_iff.1 hB).1;obtain⟨Wy,hWy⟩:∃Wy,W.alloc (.cells #[.func (.yield l) #[] #[]] 160)=Wy:=⟨_,rfl⟩;obtain⟨Wz,hWz⟩:∃Wz,Wy.alloc (.cells #[.func (.func 126) #[] #[.pointer (some ⟨W.heap.size,0,none⟩),.pointer (some ⟨Wy.heap.size,0,none⟩)]] 97)=Wz:=⟨_,rfl⟩;have byy:Boxed Wy W.heap.size 160 (.func (.yield l) #[] #[]):=by rw[←hWy];exact Boxed.new W _ _
 have byz:Boxed Wz W.heap.size 160 (.func (.yield l) #[] #[]):=by rw[←hWz];exact byy.alloc _
 have bzz:Boxed Wz Wy.heap.size 97 (.func (.func 126) #[] #[.pointer (some ⟨W.heap.size,0,none⟩),.pointer (some ⟨Wy.heap.size,0,none⟩)]):=by rw[←hWz];exact Boxed.new Wy _ _
 have hys:W.heap.size+1≤Wy.heap.size:=by rw[←hWy];simp
 have hJz:J [] Wz:=by rw[←hWz,←hWy];exact abides_alloc hJ _ (abides_alloc hJ _ h0)
 have hWz2:Below w1.heap.size w1 Wz:=by rw[←hWz,←hWy];exact((hb.trans (hW.mono hb.size)).alloc (zR hb.size hW.size) _).alloc (by simp;exact Nat.le_succ_of_le (zR hb.size hW.size)) _
 have hbz:Wz.heap[B]?=some (.cells #[.int .i64 k,S nm,.int .i64 p,.slice A ts.length c] 51):=by
  have e1:W.heap[B]?=_:=(hW.block B hBlt).trans hB;have e2:=(Below.heap_alloc W (.cells #[.func (.yield l) #[] #[]] 160) B (Array.getElem?_eq_some_iff.1 e1).1).trans e1;rw[hWy] at e2;have e3:=(Below.heap_alloc Wy (.cells #[.func (.func 126) #[] #[.pointer (some ⟨W.heap.size,0,none⟩),.pointer (some ⟨Wy.heap.size,0,none⟩)]] 97) B (Array.getElem?_eq_some_iff.1 e2).1).trans e2;rw[hWz] at e3;exact e3
 have q0:=zC hbz 0;have q1:=zC hbz 1;have q2:=zC hbz 2;have q3:=zC hbz 3;have hz:=bzz.cell;have CALL:=zH (fun kk=>nodesWalk_in T T.size l w.heap.size W.heap.size Wy.heap.size w1 hsz hW.size (by have:=hW.size;omega) hb.size J Jx (fun s W o h=>abides_alloc hJ o h) (fun kk pre x W hJp hlen=>yield_any kk (hY pre x W hJp hlen)) T.size T 0 kk 0 _ [] Wz rfl (zN _) (fun y hy=>hy) hv hWz2 byz bzz hJz (by simp) (by omega));clear hY hJ hJx hv hT;refine callsIn_of_wp Tryz.func125 rfl trivial ?_ rfl;simp only[Tryz.ntmps125,List.size_toArray,List.length_cons,List.length_nil,Nat.reduceAdd,Nat.reduceSub,Array.replicate_succ,Array.replicate_zero,List.push_toArray,List.append_toArray,List.nil_append,List.cons_append];gi_wp2;refine⟨trivial,wide_room _,(CALL.out _).mono ?_⟩;rintro e W6 (⟨rfl,ys,hys,hJ6,k6⟩ | ⟨rfl,q,hq,hx6⟩)
 ·have HYS:=zH hys;have HJ6:=zH hJ6;clear hys hJ6 k6;gi_wp2
  go_end0
  exact⟨⟨_,rfl⟩,.inl ⟨ys,HYS.out,by simpa using HJ6.out⟩⟩
 have HQ:=zH hq;have HX6:=zH hx6;clear hq hx6;gi_wp2
 go_end0
 exact⟨⟨_,rfl⟩,.inr ⟨q,HQ.out,by simpa using HX6.out⟩⟩
theorem nodes_any(v:Value)(k p:Int)(nm:List UInt8)(l c:Nat)(A:Option Addr)(w:World)(hv:v=.agg #[zI k,S nm,zI p,.slice A l c]) :
  Calls Tryz.prog 116 #[v] w fun e w'=>e=.returned (.func (.func 125) #[] #[.pointer (some ⟨w.heap.size,0,none⟩)])/\w'=w.alloc (.cells #[zI k,S nm,zI p,.slice A l c] 51):=by
 subst hv;go_enter Tryz.func116,Tryz.ntmps116;go_wp2_with fail;go_ret;exact⟨rfl,rfl⟩
theorem cell_new_t(W:World)(v:Value)(t:TypeId):(W.alloc (.cells #[v] t)).cell? ⟨W.heap.size,0,none⟩=some v∧(W.alloc (.cells #[v] t)).frozen? ⟨W.heap.size,0,none⟩=false:=⟨(Boxed.new W t v).cell,(Boxed.new W t v).frozen⟩
theorem cell_alloc_t{W:World}{a:Addr}{v:Value}(o:Obj)(h:W.cell? a=some v):(W.alloc o).cell? a=some v:=cell_kept h (World.grownBy_alloc W o none) (fun r e=>by cases e)
theorem frozen_alloc_t{W:World}{a:Addr}{v:Value}(o:Obj)(h:W.cell? a=some v)(hf:W.frozen? a=false):(W.alloc o).frozen? a=false:=(frozen_kept h (World.grownBy_alloc W o none) (fun r e=>by cases e)).trans hf
theorem tSize_any(T:Raw)(v:Value)(w:World)(hsz:T.size≤1000000000)(hv:TreeV w T v) :
  Calls Tryz.prog 102 #[v] w fun e w'=>e=.returned (.int .i64 (T.size:Int))∧Below w.heap.size w w':=by
 obtain⟨k,nm,p,ts⟩:=T;obtain⟨A,c,rfl,hc,hA⟩:=hv.open_;refine(callsIn_wide (n:=3)).1 ?_;refine callsIn_of_wp_marks Tryz.func102 rfl trivial ?_ rfl;simp only[Tryz.ntmps102,List.size_toArray,List.length_cons,List.length_nil,Nat.reduceAdd,Nat.reduceSub,Array.replicate_succ,Array.replicate_zero,List.push_toArray,List.append_toArray,List.nil_append,List.cons_append];obtain⟨wb,hwb⟩:∃wb,(w.alloc (.cells #[.int .i64 k,S nm,.int .i64 p,.slice A ts.length c] 51)).alloc (.cells #[.int .i64 0] 3)=wb:=⟨_,rfl⟩;obtain⟨wc,hwc⟩:∃wc,wb.alloc (.cells #[.int .i64 k,S nm,.int .i64 p,.slice A ts.length c] 51)=wc:=⟨_,rfl⟩;have sb:w.heap.size+2≤wb.heap.size:=by rw[←hwb];simp
 have sc:wb.heap.size+1≤wc.heap.size:=by rw[←hwc];simp
 have bb:Below w.heap.size w wb:=by rw[←hwb];exact((zB _ _).alloc (zN _) _).alloc (by simp) _
 have bc:Below w.heap.size w wc:=by rw[←hwc];exact bb.alloc (by omega) _
 have nb:=cell_new_t (w.alloc (.cells #[.int .i64 k,S nm,.int .i64 p,.slice A ts.length c] 51)) (.int .i64 0) 3;rw[hwb,World.size_alloc] at nb;have nc1:=cell_alloc_t (.cells #[.int .i64 k,S nm,.int .i64 p,.slice A ts.length c] 51) nb.1;have nc2:=frozen_alloc_t (.cells #[.int .i64 k,S nm,.int .i64 p,.slice A ts.length c] 51) nb.1 nb.2;rw[hwc] at nc1 nc2;have htc:wc.heap[wb.heap.size]?=some (.cells #[.int .i64 k,S nm,.int .i64 p,.slice A ts.length c] 51):=by rw[←hwc];exact World.alloc_heap_new wb _
 have NA:=zH (nodes_any _ k p nm ts.length c A wb rfl);rw[hwc] at NA;have HWB:=zH hwb;clear hwb nb;gi_wp2;rw[HWB.out];refine⟨trivial,(callsIn_wide.2 NA.out).mono ?_⟩;rintro e w'⟨rfl,rfl⟩;gi_wp2;refine wpIn_rangeFunc_ownF rfl (by omega) (gf:=125) (lb:=#[.pointer (some ⟨wb.heap.size,0,none⟩)]) rfl trivial enters_nodes1
  (nodes_stops _ (.node k nm p ts) k p nm ts A c wb.heap.size w _ rfl hsz htc bc hv) (fun h k=>h.trans k) (KpT.putObj bc.size) (zB _ _) (fun _=>rfl)
  (fun pre W=>(W.cell? ⟨w.heap.size+1,0,none⟩=some (.int .i64 (pre.length:Int))∧W.frozen? ⟨w.heap.size+1,0,none⟩=false)∧Below w.heap.size w W)
  (fun _ _ _=>False)
  (OwnFrom.and (Own.from (fun s A B row hs hg hr=>⟨cell_kept hs.1 hg hr,(frozen_kept hs.1 hg hr).trans hs.2⟩) _) (ownFrom_below (zN _) bc.size))
  (fun _ _ _ _ _ hs _ _=>hs)
  ⟨⟨by simpa using nc1,nc2⟩,bc⟩
  (fun x=>{ tmps:=#[.agg #[.int .i64 k,S nm,.int .i64 p,.slice A ts.length c],.pointer (some ⟨w.heap.size,0,none⟩),.int .i64 0,.pointer (some ⟨w.heap.size+1,0,none⟩),.agg #[.int .i64 k,S nm,.int .i64 p,.slice A ts.length c],.func (.func 125) #[] #[.pointer (some ⟨wb.heap.size,0,none⟩)],.int .i64 (x.1.d:Int),x.1.v,undef,undef,undef],defers:=[] }) ?assign ?body ?done ?stop
 case assign =>
  intro l x W K hK;gi_wp2;simpa[TNs.encs] using hK
 case body =>
  rintro l pre x W⟨⟨hc,hf⟩,hB⟩ hlen;have hlt:pre.length+1≤1000000000:=by omega
  gi_wp2;refine⟨KeepsOthers.setCell _ _ _,KpT.setCell _ _ _ (by omega) (by omega),⟨?_,by rw[World.frozen?_setCell];exact hf⟩,hB.setCell (p:=⟨w.heap.size+1,0,none⟩) (by simp only;omega) _⟩;rw[World.cell?_setCell_same' _ _ _ (by rw[hc];rfl)];simp
 case done =>
  rintro D ys W hD hys⟨⟨hc,_⟩,hB⟩ hK;gi_wp2;refine⟨by simp,.inl ⟨_,_,rfl,run_takeDeferred hK,?_⟩⟩;refine⟨_,results_tmp rfl _ _ _,?_,hB.trans (belowK_b (w:=w) (zN _) W D _ _ (by omega) hK rfl rfl)⟩;exact ret_int (by rw[TNs.ns_len,hys,nodes_size])
 case stop =>
  rintro D c pre W _ _ h _;exact h.elim
theorem t_depths_take(ts:List Raw)(k:Nat)(h:k<ts.length):Raw.depths (ts.take (k+1))=max (Raw.depths (ts.take k)) ts[k].depth:=by
 rw[Zm h,Raw.depths_app];simp[Raw.depths]
theorem t_sizes_take_le(ts:List Raw)(k:Nat):Raw.sizes (ts.take k)≤Raw.sizes ts:=by
 have:Raw.sizes ts=Raw.sizes (ts.take k)+Raw.sizes (ts.drop k):=by rw[←Raw.sizes_app,List.take_append_drop]
 omega
theorem t_depths_le(l:List Raw):Raw.depths l≤Raw.sizes l:=by
 induction l with
 |nil=>simp[Raw.depths,Raw.sizes]
 |cons a r ih=>have:=Raw.depth_le_size _ a (zN _);simp only[Raw.depths,Raw.sizes];omega
theorem tDepth_any(m:Nat):∀(t:Raw)(v:Value)(w:World),t.size<=m->t.size<=1000000000->TreeV w t v ->
  Calls Tryz.prog 103 #[v] w fun e w'=>e=.returned (zI (t.depth:Int))/\zb w w':=by
 induction m with
 |zero=>intro t v w h _ _;have:=t.size_pos;omega
 |succ m ih =>
  intro t v w hm hmax hv;obtain⟨kd,nm,ps,ts⟩:=t;obtain⟨A,c,rfl,hc,hA⟩:=hv.open_;simp only[Raw.size] at hm hmax;simp only[Raw.depth];have hlen:=Raw.sizes_len ts;have IH:=zH ih;have b0:zb w (w.alloc (.cells (zT kd nm ps A ts c) 51)):=(zB _ _).alloc (zN _) _;have HA:=zH hA;clear ih hA hv;go_enter Tryz.func103,Tryz.ntmps103;go_wp2_with fail;go_loopw [3,9] (fun n i wr=>∃k:Nat,k<=ts.length/\i=zI k/\n=zI ((Raw.depths (ts.take k):Nat):Int)/\zb w wr) (fun _ i _=>ts.length-(intOf i).toNat);case atStart=>exact⟨0,by omega,rfl,by simp[Raw.depths],b0⟩
  obtain⟨k,hk,rfl,rfl,hbw⟩:=hrel;have hle:=t_depths_le (ts.take k);have hle3:=t_sizes_take_le ts k;by_cases hlt:k<ts.length
  ·obtain⟨b,o,k1,n1,p1,us,B,c1,rfl,hb,ht,c0',c1',c2',c3',hcu,hB,hT⟩:=(HA.o.below hbw).at_ hlt;have hst:=t_depths_take ts k hlt;have hmem:=Raw.sizes_mem ts ts[k] (Ze _);have hdz:=Raw.depth_le_size _ ts[k] (zN _);have HS:=zH hst;clear hB ht;have b1:zb wr (wr.alloc (.cells (zT k1 n1 p1 B us c1) 51)):=(zB _ _).alloc (zN _) _;have hT2:=hT.below b1;generalize hZ:ts[k].depth=z at *;generalize hY:Raw.depths (ts.take k)=y at *;have HZ:=zH hZ;clear hZ hst hY;go_wp2_with fail;refine(IH.o ts[k] _ _ (by omega) (by omega) hT2).mono ?_;rintro e w1⟨rfl,hb1⟩;rw[HZ.o];go_wp2_with fail;go_roundw;case rel=>exact⟨k+1,by omega,by go_num,by rw[HS.o];congr 1;omega,hbw.trans ((b1.mono hbw.size).trans (hb1.mono (zR hbw.size b1.size)))⟩
   case measure=>simp[intOf];omega
  have hkl:k=ts.length:=by omega
  have hd:=t_depths_le ts;go_wp2_with fail;go_ret;exact⟨ret_int (by omega),hbw⟩
end
section
open Go.RowKit _root_.Lfc
theorem tSmall_any(t:Raw)(v:Value)(w:World)(hsz:t.size<=1000000000)(hv:TreeV w t v) :
  Calls Tryz.prog 71 #[v] w fun e w'=>e=.returned (.bool t.small)/\zb w w':=by
 have hd:=Raw.depth_le_size _ t (zN _);have HT:=zH (show t.small=(decide (t.size<=4096) && decide (t.depth<=128)) from rfl);obtain⟨A,c,kd,nm,ps,ts,hT,rfl,hc,hA⟩:∃A c kd nm ps ts,t=.node kd nm ps ts/\v=.agg (zT kd nm ps A ts c)/\ts.length<=c/\TreesAt w A ts:=by
  obtain⟨kd,nm,ps,ts⟩:=t;obtain⟨A,c,rfl,hc,hA⟩:=hv.open_;exact⟨A,c,kd,nm,ps,ts,rfl,rfl,hc,hA⟩
 clear hT hA;obtain⟨w1,hw1⟩:∃w1,w.alloc (.cells (zT kd nm ps A ts c) 51)=w1:=⟨_,rfl⟩;have b01:=zG hw1;have s0:w.heap.size+1<=w1.heap.size:=by rw[<-hw1];simp
 have hy0:w1.cell? ⟨w.heap.size,0,none⟩=some (zI kd):=by rw[<-hw1];simp
 have hy1:w1.cell? ⟨w.heap.size,1,none⟩=some (S nm):=by rw[<-hw1];simp
 have hy2:w1.cell? ⟨w.heap.size,2,none⟩=some (zI ps):=by rw[<-hw1];simp
 have hy3:w1.cell? ⟨w.heap.size,3,none⟩=some (.slice A ts.length c):=by rw[<-hw1];simp
 have HV:=zH (hv.below b01);have HI:=zH (tSize_any t _ w1 hsz HV.o);rw[HT.o];go_enter Tryz.func71,Tryz.ntmps71;go_wp2_with fail;refine HI.o.mono ?_;rintro e w2⟨rfl,hb2⟩;have hz0:=(hb2.cell (p:=⟨w.heap.size,0,none⟩) (by simp only;omega)).trans hy0;have hz1:=(hb2.cell (p:=⟨w.heap.size,1,none⟩) (by simp only;omega)).trans hy1;have hz2:=(hb2.cell (p:=⟨w.heap.size,2,none⟩) (by simp only;omega)).trans hy2;have hz3:=(hb2.cell (p:=⟨w.heap.size,3,none⟩) (by simp only;omega)).trans hy3;have HV2:=zH (HV.o.below hb2);have hs2:=hb2.size;clear hy0 hy1 hy2 hy3 hw1;by_cases hbig:t.size<=4096
 ·have g1:decide ((t.size:Int)<=4096)=true:=by simp;omega
  go_wp2_with fail;refine(tDepth_any _ t _ _ (zN _) hsz HV2.o).mono ?_;rintro e w3⟨rfl,hb3⟩;by_cases hdp:t.depth<=128
  ·have g2:decide ((t.depth:Int)<=128)=true:=(by simp;omega);go_wp2_with fail;go_ret;exact⟨ret_bool (by rw[Zt hbig,Zt hdp];rfl),b01.trans ((hb2.trans (hb3.mono hs2)).mono (by omega))⟩
  have g2:decide ((t.depth:Int)<=128)=false:=by simp;omega
  go_wp2_with fail;go_ret;exact⟨ret_bool (by rw[Zt hbig,Zu hdp];rfl),b01.trans ((hb2.trans (hb3.mono hs2)).mono (by omega))⟩
 have g1:decide ((t.size:Int)<=4096)=false:=by simp;omega
 go_wp2_with fail;go_ret;exact⟨ret_bool (by rw[Zu hbig];rfl),b01.trans (hb2.mono (by omega))⟩
theorem tWf_any(t:Raw)(v:Value)(w:World)(hsz:t.size<=1000000000)(hv:TreeV w t v) :
  Calls Tryz.prog 60 #[v] w fun e w'=>e=.returned (zI t.twf)/\zb w w':=by
 have HT:=zH (show t.twf=(if !t.obj && !t.typ && !t.knd then 1 else if !t.small then 2 else 0) from rfl);obtain⟨A,c,kd,nm,ps,ts,hT,rfl,hc,hA⟩:∃A c kd nm ps ts,t=.node kd nm ps ts/\v=.agg (zT kd nm ps A ts c)/\ts.length<=c/\TreesAt w A ts:=by
  obtain⟨kd,nm,ps,ts⟩:=t;obtain⟨A,c,rfl,hc,hA⟩:=hv.open_;exact⟨A,c,kd,nm,ps,ts,rfl,rfl,hc,hA⟩
 clear hT hA;obtain⟨w1,hw1⟩:∃w1,w.alloc (.cells (zT kd nm ps A ts c) 51)=w1:=⟨_,rfl⟩;have b01:=zG hw1;have s0:w.heap.size+1<=w1.heap.size:=by rw[<-hw1];simp
 have hy0:w1.cell? ⟨w.heap.size,0,none⟩=some (zI kd):=by rw[<-hw1];simp
 have hy1:w1.cell? ⟨w.heap.size,1,none⟩=some (S nm):=by rw[<-hw1];simp
 have hy2:w1.cell? ⟨w.heap.size,2,none⟩=some (zI ps):=by rw[<-hw1];simp
 have hy3:w1.cell? ⟨w.heap.size,3,none⟩=some (.slice A ts.length c):=by rw[<-hw1];simp
 have HV:=zH (fun W (hW:zb w1 W)=>hv.below (b01.trans (hW.mono b01.size)));have CO:=zH (fun W hW=>tObj_upto _ hsz t _ W (zN _) (HV.o W hW));have CT:=zH (fun W hW=>tTyp_upto _ hsz t _ W (zN _) (HV.o W hW));have CK:=zH (fun W hW=>tKnd_upto _ hsz t _ W (zN _) (HV.o W hW));have CS:=zH (fun W hW=>tSmall_any t _ W hsz (HV.o W hW));have HY:Hid (∀W,zb w1 W->zc W w.heap.size 0 (zI kd)/\zc W w.heap.size 1 (S nm)/\zc W w.heap.size 2 (zI ps)/\zc W w.heap.size 3 (.slice A ts.length c)):=zH fun W hW =>
  ⟨(hW.cell (p:=⟨w.heap.size,0,none⟩) (by simp only;omega)).trans hy0,(hW.cell (p:=⟨w.heap.size,1,none⟩) (by simp only;omega)).trans hy1,(hW.cell (p:=⟨w.heap.size,2,none⟩) (by simp only;omega)).trans hy2,(hW.cell (p:=⟨w.heap.size,3,none⟩) (by simp only;omega)).trans hy3⟩
 rw[HT.o];clear HT hv;generalize t.obj=qo at *;generalize t.typ=qt at *;generalize t.knd=qk at *;generalize t.small=qs at *;have b1:zb w1 w1:=zB _ _;cases qo
 ·cases qt
  ·cases qk
   ·go_enter Tryz.func60,Tryz.ntmps60;go_wp2_with fail;refine(CO.o _ b1).mono ?_;rintro e w2⟨rfl,b2⟩;obtain⟨z0,z1,z2,z3⟩:=HY.o _ b2;go_wp2_with fail;refine(CT.o _ b2).mono ?_;rintro e w3⟨rfl,b3'⟩;have b3:=b2.trans (b3'.mono b2.size);obtain⟨z0,z1,z2,z3⟩:=HY.o _ b3;go_wp2_with fail;refine(CK.o _ b3).mono ?_;rintro e w4⟨rfl,b4'⟩;have b4:=b3.trans (b4'.mono b3.size);go_wp2_with fail;go_ret;exact⟨rfl,b01.trans (b4.mono (by omega))⟩
   go_enter Tryz.func60,Tryz.ntmps60;go_wp2_with fail;refine(CO.o _ b1).mono ?_;rintro e w2⟨rfl,b2⟩;obtain⟨z0,z1,z2,z3⟩:=HY.o _ b2;go_wp2_with fail;refine(CT.o _ b2).mono ?_;rintro e w3⟨rfl,b3'⟩;have b3:=b2.trans (b3'.mono b2.size);obtain⟨z0,z1,z2,z3⟩:=HY.o _ b3;go_wp2_with fail;refine(CK.o _ b3).mono ?_;rintro e w4⟨rfl,b4'⟩;have b4:=b3.trans (b4'.mono b3.size);obtain⟨z0,z1,z2,z3⟩:=HY.o _ b4;go_wp2_with fail;refine(CS.o _ b4).mono ?_;rintro e w5⟨rfl,b5'⟩;have b5:=b4.trans (b5'.mono b4.size);cases qs;all_goals
    go_wp2_with fail;go_ret;exact⟨rfl,b01.trans (b5.mono (by omega))⟩
  go_enter Tryz.func60,Tryz.ntmps60;go_wp2_with fail;refine(CO.o _ b1).mono ?_;rintro e w2⟨rfl,b2⟩;obtain⟨z0,z1,z2,z3⟩:=HY.o _ b2;go_wp2_with fail;refine(CT.o _ b2).mono ?_;rintro e w4⟨rfl,b4'⟩;have b4:=b2.trans (b4'.mono b2.size);obtain⟨z0,z1,z2,z3⟩:=HY.o _ b4;go_wp2_with fail;refine(CS.o _ b4).mono ?_;rintro e w5⟨rfl,b5'⟩;have b5:=b4.trans (b5'.mono b4.size);cases qs;all_goals
   go_wp2_with fail;go_ret;exact⟨rfl,b01.trans (b5.mono (by omega))⟩
 go_enter Tryz.func60,Tryz.ntmps60;go_wp2_with fail;refine(CO.o _ b1).mono ?_;rintro e w4⟨rfl,b4⟩;obtain⟨z0,z1,z2,z3⟩:=HY.o _ b4;go_wp2_with fail;refine(CS.o _ b4).mono ?_;rintro e w5⟨rfl,b5'⟩;have b5:=b4.trans (b5'.mono b4.size);cases qs;all_goals
  go_wp2_with fail;go_ret;exact⟨by cases qt <;> cases qk <;> rfl,b01.trans (b5.mono (by omega))⟩
end
section
open Go.RowKit
mutual
def OrdC(w:World):Lfc.Ord→Value→Value→Value→Prop
 |.node k a ts,v0,v1,v2=>v0=.int .i64 k∧v1=.int .i64 a∧∃A c,v2=.slice A ts.length c∧ts.length≤c∧(ts≠[]→∃b o,A=some ⟨b,o,none⟩∧b<w.heap.size∧OrdsO w b ts o)
def OrdsO(w:World)(b:Nat):List Lfc.Ord→Nat→Prop
 |[],_=>True
 |t :: r,o=>(∃v0 v1 v2,w.cell? ⟨b,o,none⟩=some v0∧w.cell? ⟨b,o+1,none⟩=some v1∧w.cell? ⟨b,o+2,none⟩=some v2∧OrdC w t v0 v1 v2)∧OrdsO w b r (o+3)
end
mutual
theorem OrdC.below{w w':World}(hb:Below w.heap.size w w'):∀(t:Lfc.Ord)(v0 v1 v2:Value),OrdC w t v0 v1 v2→OrdC w' t v0 v1 v2
 |.node k a ts,v0,v1,v2,h=>by
  rw[OrdC] at h ⊢;obtain⟨h0,h1,A,c,h3,h4,h5⟩:=h;refine⟨h0,h1,A,c,h3,h4,fun hne=>?_⟩;obtain⟨b,o,hA,hlt,hts⟩:=h5 hne;exact⟨b,o,hA,Zl hlt hb.size,OrdsO.below hb ts b o hlt hts⟩
theorem OrdsO.below{w w':World}(hb:Below w.heap.size w w'):∀(ts:List Lfc.Ord)(b o:Nat),b<w.heap.size→OrdsO w b ts o→OrdsO w' b ts o
 |[],_,_,_,_=>by rw[OrdsO];trivial
 |t :: r,b,o,hlt,h=>by
  rw[OrdsO] at h ⊢;obtain⟨⟨v0,v1,v2,c0,c1,c2,ht⟩,hr⟩:=h;exact⟨⟨v0,v1,v2,(hb.cell (p:=⟨b,_,none⟩) hlt).trans c0,(hb.cell (p:=⟨b,_,none⟩) hlt).trans c1,(hb.cell (p:=⟨b,_,none⟩) hlt).trans c2,OrdC.below hb t v0 v1 v2 ht⟩,OrdsO.below hb r b (o+3) hlt hr⟩
end
theorem OrdsO.at_{w:World}{b:Nat}:∀(ts:List Lfc.Ord)(o i:Nat)(t:Lfc.Ord),OrdsO w b ts o→ts[i]?=some t →
  ∃v0 v1 v2,w.cell? ⟨b,o+i*3,none⟩=some v0∧w.cell? ⟨b,o+i*3+1,none⟩=some v1∧w.cell? ⟨b,o+i*3+2,none⟩=some v2∧OrdC w t v0 v1 v2:=by
 intro ts;induction ts with
 |nil=>intro o i t _ h;simp at h
 |cons a r ih =>
  intro o i t h hi;rw[OrdsO] at h;cases i with
  |zero=>simp at hi;subst hi;simpa using h.1
  |succ i =>
   have:=ih (o+3) i t h.2 (by simpa using hi);rw[show o+(i+1)*3=o+3+i*3 by omega];exact this
def OrdV(w:World)(t:Lfc.Ord)(v:Value):Prop:=∃v0 v1 v2,v=.agg #[v0,v1,v2]∧OrdC w t v0 v1 v2
theorem OrdV.below{w w':World}{t:Lfc.Ord}{v:Value}(h:OrdV w t v)(hb:Below w.heap.size w w'):OrdV w' t v:=by
 obtain⟨v0,v1,v2,rfl,h⟩:=h;exact⟨v0,v1,v2,rfl,OrdC.below hb t _ _ _ h⟩
def OrdsAt(w:World)(A:Option Addr)(ts:List Lfc.Ord):Prop:=ts≠[]→∃b o,A=some ⟨b,o,none⟩∧b<w.heap.size∧OrdsO w b ts o
theorem OrdsAt.below{w w':World}{A:Option Addr}{ts:List Lfc.Ord}(h:OrdsAt w A ts)(hb:Below w.heap.size w w'):OrdsAt w' A ts:=fun hne=>by
 obtain⟨b,o,hA,hlt,h⟩:=h hne;exact⟨b,o,hA,Zl hlt hb.size,OrdsO.below hb ts b o hlt h⟩
theorem OrdV.open_{w:World}{k a:Int}{ts:List Lfc.Ord}{v:Value}(h:OrdV w (.node k a ts) v):∃A c,v=.agg #[.int .i64 k,.int .i64 a,.slice A ts.length c]∧ts.length≤c∧OrdsAt w A ts:=by
 obtain⟨v0,v1,v2,rfl,h⟩:=h;rw[OrdC] at h;obtain⟨rfl,rfl,A,c,rfl,hc,h⟩:=h;exact⟨A,c,rfl,hc,h⟩
theorem OrdV.mk{w:World}{k a:Int}{ts:List Lfc.Ord}{A:Option Addr}{c:Nat}(hc:ts.length≤c)(h:OrdsAt w A ts):OrdV w (.node k a ts) (.agg #[.int .i64 k,.int .i64 a,.slice A ts.length c]) :=
 ⟨_,_,_,rfl,by rw[OrdC];exact⟨rfl,rfl,A,c,rfl,hc,h⟩⟩
theorem OrdsAt.at_{w:World}{A:Option Addr}{ts:List Lfc.Ord}(h:OrdsAt w A ts){i:Nat}(hi:i<ts.length) :
  ∃b o k a us B c,A=some ⟨b,o,none⟩∧b<w.heap.size∧ts[i]=.node k a us∧w.cell? ⟨b,o+i*3,none⟩=some (.int .i64 k)∧w.cell? ⟨b,o+i*3+1,none⟩=some (.int .i64 a)∧w.cell? ⟨b,o+i*3+2,none⟩=some (.slice B us.length c) ∧
   us.length≤c∧OrdsAt w B us∧OrdV w ts[i] (.agg #[.int .i64 k,.int .i64 a,.slice B us.length c]):=by
 obtain⟨b,o,hA,hlt,hts⟩:=h (by intro h0;rw[h0] at hi;simp at hi);obtain⟨v0,v1,v2,c0,c1,c2,ht⟩:=OrdsO.at_ ts o i ts[i] hts (Zg hi);cases ht':ts[i] with
 |node k a us =>
  rw[ht'] at ht;have htv:OrdV w (.node k a us) (.agg #[v0,v1,v2]):=⟨v0,v1,v2,rfl,ht⟩;rw[OrdC] at ht;obtain⟨rfl,rfl,B,c,rfl,hc,hB⟩:=ht;exact⟨b,o,k,a,us,B,c,hA,hlt,rfl,c0,c1,c2,hc,hB,htv⟩
theorem cells3o{W:World}{g:Nat}{v0 v1 v2:Value}{t:TypeId}(h:W.heap[g]?=some (.cells #[v0,v1,v2] t (0,0))):W.cell? ⟨g,0,none⟩=some v0∧W.cell? ⟨g,1,none⟩=some v1∧W.cell? ⟨g,2,none⟩=some v2 :=
 ⟨zC h 0,zC h 1,zC h 2⟩
end
end Go.Proofs.YtadjpadieljjlaaGreat
namespace Lfc
def kindOf(ks:List Int)(i:Int):Int:=if i<(ks.length:Int)∧(ks.getD i.toNat 0=1∨ks.getD i.toNat 0=2) then ks.getD i.toNat 0 else 0
def Raw.pas(ks:List Int)(cr:Int):Raw→Bool
  |.node k _ p _=>if k=3∨k=4 then true else if k=5 then decide (p<cr) || decide (kindOf ks (p-cr)≠1) else false
def stStep(ks:List Int)(cr:Nat)(k:Int)(n n':List UInt8)(p p':Int)(d:Int)(tv:List Int):Option (List Int) :=
  if k=4 then(if n=n' then some tv else none)
  else if k=5 then
    (if p-d<0 then(if p=p' then some tv else none)
     else if p-d<(cr:Int) then(if p'-d<0∨kindOf ks (p'-d)≠2∨(0≤tv.getD (p-d).toNat 0∧tv.getD (p-d).toNat 0≠p'-d) then none else some (tv.set (p-d).toNat (p'-d)))
     else if p'=p-(cr:Int) then some tv else none)
  else if k=6 then(if p=p' then some tv else none)
  else some tv
mutual
def Raw.st(ks:List Int)(cr:Nat):Raw→Raw→Int→List Int→Option (List Int)
  |.node k n p xs,.node k' n' p' xs',d,tv =>
    if k≠k'∨xs.length≠xs'.length then none
    else match stStep ks cr k n n' p p' d tv with
      |none=>none
      |some tv'=>Raw.sts ks cr xs xs' (if k=3 then d+1 else d) tv'
def Raw.sts(ks:List Int)(cr:Nat):List Raw→List Raw→Int→List Int→Option (List Int)
  |a :: r,a' :: r',d,tv=>match Raw.st ks cr a a' d tv with
    |none=>none
    |some tv'=>Raw.sts ks cr r r' d tv'
  |_,_,_,tv=>some tv
end
end Lfc
namespace Go.Proofs.YtadjpadieljjlaaGreat
section
open Go.RowKit _root_.Lfc
def IntsO(w:World)(A:Option Addr)(zs:List Int):Prop:=zs≠[]→∃b o,A=some ⟨b,o,none⟩∧b<w.heap.size∧∀k,k<zs.length→w.cell? ⟨b,o+k,none⟩=some (.int .i64 (zs.getD k 0))
theorem IntsO.below{w w':World}{A:Option Addr}{zs:List Int}(h:IntsO w A zs)(hb:Below w.heap.size w w'):IntsO w' A zs:=fun hne=>by
  obtain⟨b,o,hA,hlt,hx⟩:=h hne;exact⟨b,o,hA,Zl hlt hb.size,fun k hk=>(hb.cell (p:=⟨b,o+k,none⟩) hlt).trans (hx k hk)⟩
theorem oKind_any(ks:List Int)(A:Option Addr)(c:Nat)(i:Int)(w:World)(hi:0<=i)(hlen:ks.length<=1000000)(h:IntsO w A ks) :
    Calls Tryz.prog 73 #[.slice A ks.length c,zI i] w fun e w'=>e=.returned (zI (kindOf ks i))/\w'=w:=by
  obtain⟨j,rfl⟩:∃j:Nat,i=j:=⟨i.toNat,by omega⟩;have HK:Hid (kindOf ks (j:Int)=if (j:Int)<(ks.length:Int)/\(ks.getD j 0=1\/ks.getD j 0=2) then ks.getD j 0 else 0):=zH rfl;rw[HK.o];clear HK hi;by_cases hj:j<ks.length
  · obtain⟨b,o,rfl,hlt,hx⟩:=h (by intro h0;rw[h0] at hj;simp at hj)
    have hx1:=hx j hj;clear hx;have hjl:(j:Int)<(ks.length:Int):=(by omega);have hd:decide ((j:Int)<(ks.length:Int))=true:=Zt hjl;have HJL:=zH hjl;obtain⟨z,hz⟩:∃z,ks.getD j 0=z:=⟨_,rfl⟩;rw[hz] at hx1 ⊢;clear h hz;by_cases h1:z=1
    · subst h1
      rw[if_pos ⟨HJL.o,.inl rfl⟩];go_enter Tryz.func73,Tryz.ntmps73;go_wp2_with fail;go_ret;exact⟨rfl,rfl⟩
    by_cases h2:z=2
    · subst h2
      rw[if_pos ⟨HJL.o,.inr rfl⟩];go_enter Tryz.func73,Tryz.ntmps73;go_wp2_with fail;go_ret;exact⟨rfl,rfl⟩
    have hz1:(z == 1)=false:=(by simpa using h1);have hz2:(z == 2)=false:=(by simpa using h2);have HN:=zJ h1 h2;rw[if_neg (fun h=>h.2.elim h1 h2)];clear h1 h2;go_enter Tryz.func73,Tryz.ntmps73;go_wp2_with fail;go_ret;exact⟨rfl,rfl⟩
  have hjl:¬(j:Int)<(ks.length:Int):=by omega
  have hd:decide ((j:Int)<(ks.length:Int))=false:=Zu hjl;have HJL:=zH hjl;clear h;rw[if_neg (fun h=>HJL.o h.1)];go_enter Tryz.func73,Tryz.ntmps73;go_wp2_with fail;go_ret;exact⟨rfl,rfl⟩
theorem oPasses_any(ks:List Int)(A0:Option Addr)(c0 cr:Nat)(t:Raw)(v:Value)(w:World)(hcr:cr<=1000000)(hlen:ks.length<=1000000)(h:IntsO w A0 ks)(hv:TreeV w t v)(ho:t.obj=true) :
    Calls Tryz.prog 46 #[v,zI (cr:Int),.slice A0 ks.length c0] w fun e w'=>e=.returned (.bool (t.pas ks cr))/\zb w w':=by
  obtain⟨kd,nm,ps,ts⟩:=t;obtain⟨A,c,rfl,hc,hA⟩:=hv.open_;obtain⟨w1,hw1⟩:∃w1,w.alloc (.cells (zT kd nm ps A ts c) 51)=w1:=⟨_,rfl⟩;have b1:=zG hw1;have q1:=zQ hw1;have y0:=zC q1 0;have y2:=zC q1 2;simp at y0 y2;have B1:=zH b1;have H1:=zH (h.below b1);have HP:Hid ((Raw.node kd nm ps ts).pas ks cr=if kd=3\/kd=4 then true else if kd=5 then decide (ps<(cr:Int)) || decide (kindOf ks (ps-cr)≠1) else false):=zH rfl;rw[HP.o];by_cases h3:kd=3
  · subst h3
    clear hA hv h ho b1 q1 HP;go_enter Tryz.func46,Tryz.ntmps46;go_wp2_with fail;go_ret;exact⟨rfl,B1.o⟩
  by_cases h4:kd=4
  · subst h4
    clear hA hv h ho b1 q1 HP;go_enter Tryz.func46,Tryz.ntmps46;go_wp2_with fail;go_ret;exact⟨rfl,B1.o⟩
  have hk3:(kd == 3)=false:=by simpa using h3
  have hk4:(kd == 4)=false:=by simpa using h4
  rw[if_neg (fun h=>h.elim h3 h4)];by_cases h5:kd=5
  · subst h5
    have hpb:0<=ps/\ps<=1048576:=by
      rw[Raw.obj] at ho;simp at ho;omega
    rw[if_pos rfl];by_cases hpc:ps<(cr:Int)
    · have hd:decide (ps<(cr:Int))=true:=Zt hpc
      rw[hd];have HT:Hid ((true || decide (kindOf ks (ps-cr)≠1))=true):=zH rfl;rw[HT.o];clear hA hv h ho b1 q1 HP h3 h4;go_enter Tryz.func46,Tryz.ntmps46;go_wp2_with fail;go_ret;exact⟨rfl,B1.o⟩
    have hd:decide (ps<(cr:Int))=false:=Zu hpc;have hwr:IntKind.i64.wrap (ps-(cr:Int))=ps-(cr:Int):=Zi _ (by omega);have CK:=zH (oKind_any ks A0 c0 (ps-cr) w1 (by omega) hlen H1.o);rw[hd,Bool.false_or];obtain⟨z,hz⟩:∃z,kindOf ks (ps-cr)=z:=⟨_,rfl⟩;rw[hz] at CK ⊢;clear hA hv h ho b1 q1 HP h3 h4 hz;have HW1:=zH hw1;clear hw1;go_enter Tryz.func46,Tryz.ntmps46;go_upto_region 1 with fail;rw[HW1.o];go_wp2_with fail;refine CK.o.mono ?_;rintro e w2⟨rfl,rfl⟩;go_wp2_with fail;go_ret;exact⟨ret_bool (by rw[bne,Bool.eq_iff_iff];simp),B1.o⟩
  have hk5:(kd == 5)=false:=by simpa using h5
  rw[if_neg h5];clear hA hv h ho b1 q1 HP h3 h4 h5;go_enter Tryz.func46,Tryz.ntmps46;go_wp2_with fail;go_ret;exact⟨rfl,B1.o⟩
end
section
open Go.RowKit
section
variable {P:Program} (w:World)
theorem step_append_own_at{ops:Array Oper}{o:Oper}{a:Act}{K:Act→World→Prop}{Q:Exit→Act→World→Prop}{E:Prop}(hgd:o.guard=none)(s x:Operand)(t:TypeId)
  (ho:o.op=.call { callee:=.builtin .append,args:=#[s,x],argTypes:=#[t,t] })
  (base:Nat) (e:TypeId) (i:TypeInfo) (z:Value) (size bytes:Nat) (ht:P.underlying t=some (.slice e)) (hi:P.info? e=some i) (hz:i.zero=some z)
  (hsize:i.size=size) (hby:i.bytes=bytes) (hzs:z.cells.size=size) (hsz:0<size)
  (v:Value) (n:Nat) (xs:List Value) (hs:a.eval s=v) (hown:w.ownsRow base e size v n xs)
  (ad:Addr) (m c:Nat) (news:List Value) (hx:a.eval x=.slice (some ad) m c) (hl:news.length=m*size) (hnews:∀j u,news[j]?=some u→w.cell? (ad.add j)=some u) (h1:∀u∈news,u.oneCell'=true)
  (h63:n+m≤maxLen) (hbytes:(n+m)*bytes≤140737488355328) (hbase:base≤w.heap.size)
  (h:∀v' w',w'.ownsRow base e size v' (n+m) (xs++news)→w.grownBy w' v.ownBlock→(v'.ownBlock=v.ownBlock∨v'.ownBlock=some w.heap.size)→K (a.put o.dst v') w') :
  if Region.wanted o (yielded ops a.tmps)=true then Oper.wp P o a w K Q else E:=by
 have hw:Region.wanted o (yielded ops a.tmps)=true:=by simp[Region.wanted,hgd]
 rw[if_pos hw];obtain⟨v',w',hr,h2,h3,h4,h5⟩:=run_append_own_at (P:=P) w base t o.type e i z size bytes ht hi hz hsize hby hzs hsz v n xs hown ad m c news hl hnews h1 h63 hbytes hbase;unfold Oper.wp execOp;simp only[ho,resolve,invoke,builtin,Sem.run_bind,Sem.run_pure,Result.andThen_ok,List.map_toArray,List.map_cons,List.map_nil,hs,hx,hr];exact h v' w' h2 h3 h5
end
end
section
open Go.RowKit
mutual
def OrdP(q:Nat→Prop)(w:World):Lfc.Ord→Value→Value→Value→Prop
 |.node k a ts,v0,v1,v2=>v0=.int .i64 k∧v1=.int .i64 a∧∃A c,v2=.slice A ts.length c∧ts.length≤c∧(ts≠[]→∃b o,A=some ⟨b,o,none⟩∧b<w.heap.size∧q b∧OrdsP q w b ts o)
def OrdsP(q:Nat→Prop)(w:World)(b:Nat):List Lfc.Ord→Nat→Prop
 |[],_=>True
 |t :: r,o=>(∃v0 v1 v2,w.cell? ⟨b,o,none⟩=some v0∧w.cell? ⟨b,o+1,none⟩=some v1∧w.cell? ⟨b,o+2,none⟩=some v2∧OrdP q w t v0 v1 v2)∧OrdsP q w b r (o+3)
end
mutual
theorem OrdP.keep{q q':Nat→Prop}{w w':World}(hk:∀b,q b→b<w.heap.size→w'.heap[b]?=w.heap[b]?)(hs:w.heap.size≤w'.heap.size)(hq:∀b,b<w.heap.size→q b→q' b):∀(t:Lfc.Ord)(v0 v1 v2:Value),OrdP q w t v0 v1 v2→OrdP q' w' t v0 v1 v2
 |.node k a ts,v0,v1,v2,h=>by
  rw[OrdP] at h ⊢;obtain⟨h0,h1,A,c,h3,h4,h5⟩:=h;refine⟨h0,h1,A,c,h3,h4,fun hne=>?_⟩;obtain⟨b,o,hA,hlt,hqb,hts⟩:=h5 hne;exact⟨b,o,hA,Zl hlt hs,hq b hlt hqb,OrdsP.keep hk hs hq ts b o hlt hqb hts⟩
theorem OrdsP.keep{q q':Nat→Prop}{w w':World}(hk:∀b,q b→b<w.heap.size→w'.heap[b]?=w.heap[b]?)(hs:w.heap.size≤w'.heap.size)(hq:∀b,b<w.heap.size→q b→q' b):∀(ts:List Lfc.Ord)(b o:Nat),b<w.heap.size→q b→OrdsP q w b ts o→OrdsP q' w' b ts o
 |[],_,_,_,_,_=>by rw[OrdsP];trivial
 |t :: r,b,o,hlt,hb,h=>by
  rw[OrdsP] at h ⊢;obtain⟨⟨v0,v1,v2,c0,c1,c2,ht⟩,hr⟩:=h;have hc:=fun j=>World.cell?_of_block (a:=⟨b,j,none⟩) (hk b hb hlt);exact⟨⟨v0,v1,v2,(hc _).trans c0,(hc _).trans c1,(hc _).trans c2,OrdP.keep hk hs hq t v0 v1 v2 ht⟩,OrdsP.keep hk hs hq r b (o+3) hlt hb hr⟩
end
mutual
theorem OrdP.toC{q:Nat→Prop}{w:World}:∀(t:Lfc.Ord)(v0 v1 v2:Value),OrdP q w t v0 v1 v2→OrdC w t v0 v1 v2
 |.node k a ts,v0,v1,v2,h=>by
  rw[OrdP] at h;rw[OrdC];obtain⟨h0,h1,A,c,h3,h4,h5⟩:=h;refine⟨h0,h1,A,c,h3,h4,fun hne=>?_⟩;obtain⟨b,o,hA,hlt,hqb,hts⟩:=h5 hne;exact⟨b,o,hA,hlt,OrdsP.toC ts b o hts⟩
theorem OrdsP.toC{q:Nat→Prop}{w:World}:∀(ts:List Lfc.Ord)(b o:Nat),OrdsP q w b ts o→OrdsO w b ts o
 |[],_,_,_=>by rw[OrdsO];trivial
 |t :: r,b,o,h=>by
  rw[OrdsP] at h;rw[OrdsO];obtain⟨⟨v0,v1,v2,c0,c1,c2,ht⟩,hr⟩:=h;exact⟨⟨v0,v1,v2,c0,c1,c2,OrdP.toC t v0 v1 v2 ht⟩,OrdsP.toC r b (o+3) hr⟩
end
def ORow(q:Nat→Prop)(w:World):List Lfc.Ord→List Value→Prop
 |[],xs=>xs=[]
 |t :: r,xs=>∃v0 v1 v2 ys,xs=v0 :: v1 :: v2 :: ys∧OrdP q w t v0 v1 v2∧ORow q w r ys
theorem ORow.keep{q q':Nat→Prop}{w w':World}(hk:∀b,q b→b<w.heap.size→w'.heap[b]?=w.heap[b]?)(hs:w.heap.size≤w'.heap.size)(hq:∀b,b<w.heap.size→q b→q' b):∀{ts:List Lfc.Ord}{xs:List Value},ORow q w ts xs→ORow q' w' ts xs
 |[],xs,h=>by rw[ORow] at h ⊢;exact h
 |t :: r,xs,h=>by
  rw[ORow] at h ⊢;obtain⟨v0,v1,v2,ys,rfl,ht,hr⟩:=h;exact⟨v0,v1,v2,ys,rfl,OrdP.keep hk hs hq t _ _ _ ht,hr.keep hk hs hq⟩
theorem ORow.append{q:Nat→Prop}{w:World}{us:List Lfc.Ord}{zs:List Value}(hz:ORow q w us zs):∀{ts:List Lfc.Ord}{xs:List Value},ORow q w ts xs→ORow q w (ts++us) (xs++zs)
 |[],xs,h=>by rw[ORow] at h;subst h;exact hz
 |t :: r,xs,h=>by
  rw[ORow] at h;obtain⟨v0,v1,v2,ys,rfl,ht,hr⟩:=h;rw[List.cons_append,ORow];exact⟨v0,v1,v2,ys++zs,by simp,ht,ORow.append hz hr⟩
theorem ORow.one{q:Nat→Prop}{w:World}{t:Lfc.Ord}{v0 v1 v2:Value}(h:OrdP q w t v0 v1 v2):ORow q w [t] [v0,v1,v2]:=⟨v0,v1,v2,[],rfl,h,rfl⟩
def OCellsAt(w:World)(b o:Nat)(xs:List Value):Prop:=∀j u,xs[j]?=some u→w.cell? ⟨b,o+j,none⟩=some u
theorem ORow.lie{q:Nat→Prop}{w:World}{b:Nat}:∀{ts:List Lfc.Ord}{xs:List Value}{o:Nat},ORow q w ts xs→OCellsAt w b o xs→OrdsP q w b ts o
 |[],_,_,_,_=>by rw[OrdsP];trivial
 |t :: r,xs,o,h,hc=>by
  rw[ORow] at h;obtain⟨v0,v1,v2,ys,rfl,ht,hr⟩:=h;rw[OrdsP];refine⟨⟨v0,v1,v2,hc 0 _ rfl,hc 1 _ rfl,hc 2 _ rfl,ht⟩,hr.lie fun j u hj=>?_⟩;have:=hc (j+3) u (by simpa using hj);rw[show o+3+j=o+(j+3) by omega];exact this
theorem ocell_add(b j:Nat):(⟨b,0,none⟩:Addr).add j=⟨b,j,none⟩:=by
 unfold Addr.add;split <;> simp_all
theorem own_cellsO{w:World}{base:Nat}{e:TypeId}{size n g cap:Nat}{xs:List Value}(h:w.ownsRow base e size (.slice (some ⟨g,0,none⟩) n cap) n xs):OCellsAt w g 0 xs:=by
 intro j u hj;have:=h.cells (g:=g) rfl j u hj;rw[ocell_add] at this;simpa using this
def OrdsAtP(q:Nat→Prop)(w:World)(A:Option Addr)(ts:List Lfc.Ord):Prop:=ts≠[]→∃b o,A=some ⟨b,o,none⟩∧b<w.heap.size∧q b∧OrdsP q w b ts o
theorem OrdsAtP.keep{q q':Nat→Prop}{w w':World}{A:Option Addr}{ts:List Lfc.Ord}(hk:∀b,q b→b<w.heap.size→w'.heap[b]?=w.heap[b]?)(hs:w.heap.size≤w'.heap.size)(hq:∀b,b<w.heap.size→q b→q' b)(h:OrdsAtP q w A ts):OrdsAtP q' w' A ts:=fun hne=>by
 obtain⟨b,o,hA,hlt,hb,h⟩:=h hne;exact⟨b,o,hA,Zl hlt hs,hq b hlt hb,OrdsP.keep hk hs hq ts b o hlt hb h⟩
def OrdVP(q:Nat→Prop)(w:World)(t:Lfc.Ord)(v:Value):Prop:=∃v0 v1 v2,v=.agg #[v0,v1,v2]∧OrdP q w t v0 v1 v2
theorem OrdVP.toV{q:Nat→Prop}{w:World}{t:Lfc.Ord}{v:Value}(h:OrdVP q w t v):OrdV w t v:=by
 obtain⟨v0,v1,v2,rfl,h⟩:=h;exact⟨v0,v1,v2,rfl,OrdP.toC _ _ _ _ h⟩
theorem OrdVP.keep{q q':Nat→Prop}{w w':World}(hk:∀b,q b→b<w.heap.size→w'.heap[b]?=w.heap[b]?)(hs:w.heap.size≤w'.heap.size)(hq:∀b,b<w.heap.size→q b→q' b){t:Lfc.Ord}{v:Value}(h:OrdVP q w t v):OrdVP q' w' t v:=by
 obtain⟨v0,v1,v2,rfl,h⟩:=h;exact⟨v0,v1,v2,rfl,OrdP.keep hk hs hq _ _ _ _ h⟩
theorem OrdVP.mk{q:Nat→Prop}{w:World}{k a:Int}{ts:List Lfc.Ord}{A:Option Addr}{c:Nat}(hc:ts.length≤c)(h:OrdsAtP q w A ts):OrdVP q w (.node k a ts) (.agg #[.int .i64 k,.int .i64 a,.slice A ts.length c]) :=
 ⟨_,_,_,rfl,by rw[OrdP];exact⟨rfl,rfl,A,c,rfl,hc,h⟩⟩
theorem OrdVP.open_{q:Nat→Prop}{w:World}{k a:Int}{ts:List Lfc.Ord}{v:Value}(h:OrdVP q w (.node k a ts) v):∃A c,v=.agg #[.int .i64 k,.int .i64 a,.slice A ts.length c]∧OrdP q w (.node k a ts) (.int .i64 k) (.int .i64 a) (.slice A ts.length c):=by
 obtain⟨v0,v1,v2,rfl,h⟩:=h;have h':=h;rw[OrdP] at h;obtain⟨rfl,rfl,A,c,rfl,_⟩:=h;exact⟨A,c,rfl,h'⟩
theorem ord_size:(Tryz.prog.info? 26).map (·.size)=some 3:=by kernel_rfl
theorem ord_info:∃i,Tryz.prog.info? 26=some i∧i.zero=some (.agg #[.int .i64 0,.int .i64 0,.slice none 0 0])∧i.size=3∧i.bytes=40:=by
 obtain⟨i0,hi,hz0,hz1,hz2⟩:=info_parts (show(Tryz.prog.info? 26).map (fun i=>(i.zero,i.size,i.bytes))=some (some (.agg #[.int .i64 0,.int .i64 0,.slice none 0 0]),3,40) by kernel_rfl);exact⟨i0,hi,hz0,hz1,hz2⟩
theorem results_ord{fn:Func}{p:Tmp}(h:fn.results=#[.cell p 26])(tmps:Array Value)(w:World)(g:Nat)(v0 v1 v2:Value)(hp:tmps.getD p undef=.pointer (some ⟨g,0,none⟩))(hg:w.heap[g]?=some (.cells #[v0,v1,v2] 26 (0,0))) :
  (results fn tmps).run Tryz.prog w=.ok (.agg #[v0,v1,v2]) w :=
 results_cell_row h tmps w g _ _ _ _ hp hg Tryz.underlying26 rfl ord_size
theorem results_ord2{fn:Func}{p u:Tmp}(h:fn.results=#[.cell p 26,.tmp u])(tmps:Array Value)(w:World)(g:Nat)(v0 v1 v2:Value)(hp:tmps.getD p undef=.pointer (some ⟨g,0,none⟩))(hg:w.heap[g]?=some (.cells #[v0,v1,v2] 26 (0,0))) :
  (results fn tmps).run Tryz.prog w=.ok (.tuple #[.agg #[v0,v1,v2],tmps.getD u undef]) w:=by
 rw[results_cell_tmp h,hp];simp[asAddr,run_loadVar_row w g _ _ _ _ _ hg Tryz.underlying26 rfl ord_size,Result.andThen]
theorem oset2{W:World}{r:Nat}{v0 v1 v2 v:Value}{t:TypeId}(h:W.heap[r]?=some (.cells #[v0,v1,v2] t (0,0))):(W.setCell ⟨r,2,none⟩ v).heap[r]?=some (.cells #[v0,v1,v] t (0,0)):=by
 simp[World.setCell,zM,h]
theorem ord_final{base T r:Nat}{wx w9 w10 wa:World}{v v' k a a0 a1 a2:Value}{ts:List Lfc.Ord}{xs:List Value}{t:Lfc.Ord}(hr:r<base)(hT:T<r)(hb:base≤wx.heap.size)(hwa:wa.heap.size≤r)
  (hR:wx.heap[r]?=some (.cells #[k,a,v] 26 (0,0))) (hown:wx.ownsRow base 26 3 v ts.length xs) (hrow:ORow (fun b=>base≤b∧some b≠v.ownBlock) wx ts xs)
  (hTx:Oth T wa wx) (o9:Oth T wx.drew w9) (ht:OrdP (fun b=>wx.drew.heap.size≤b) w9 t a0 a1 a2)
  (hown':w10.ownsRow base 26 3 v' (ts.length+1) (xs++[a0,a1,a2]))
  (hg:(w9.alloc (.cells #[a0,a1,a2] 26)).grownBy w10 v.ownBlock) (hloc:v'.ownBlock=v.ownBlock∨v'.ownBlock=some (w9.heap.size+1)) :
  w10.heap[r]?=some (.cells #[k,a,v] 26 (0,0))∧(w10.setCell ⟨r,2,none⟩ v').heap[r]?=some (.cells #[k,a,v'] 26 (0,0))∧(w10.setCell ⟨r,2,none⟩ v').ownsRow base 26 3 v' (ts++[t]).length (xs++[a0,a1,a2]) ∧
  ORow (fun b=>base≤b∧some b≠v'.ownBlock) (w10.setCell ⟨r,2,none⟩ v') (ts++[t]) (xs++[a0,a1,a2])∧Oth T wa (w10.setCell ⟨r,2,none⟩ v')∧base≤(w10.setCell ⟨r,2,none⟩ v').heap.size ∧
  (∀b,b<base→b≠r→b≠T→(w10.setCell ⟨r,2,none⟩ v').heap[b]?=wx.heap[b]?)∧(w10.setCell ⟨r,2,none⟩ v').heap[T]?=w9.heap[T]?:=by
 have s9:wx.heap.size≤w9.heap.size:=o9.size;have s10:w9.heap.size+1≤w10.heap.size:=by have:=hg.size;simpa using this
 have hrx:=zL hR;have hown_lt:∀g,v.ownBlock=some g→base≤g∧g<wx.heap.size:=fun g e=>hown.lt g e;have hne:some r≠v.ownBlock:=fun e=>by have:=(hown_lt r e.symm).1;omega
 have hr9:w9.heap[r]?=some (.cells #[k,a,v] 26 (0,0)):=o9.heap hR (by omega);have hr10:w10.heap[r]?=some (.cells #[k,a,v] 26 (0,0)):=(hg.block r (by simp;omega) hne).trans ((zA _ _ _ (zL hr9)).trans hr9);have hne':v'.ownBlock≠some r:=fun e=>by have:=(hown'.lt r e).1;omega
 have hsz:(w10.setCell ⟨r,2,none⟩ v').heap.size=w10.heap.size:=by simp[World.setCell]
 have key:∀b,b≠r→some b≠v.ownBlock→b<w9.heap.size→(w10.setCell ⟨r,2,none⟩ v').heap[b]?=w9.heap[b]?:=fun b h1 h2 h3=>by
  rw[Below.heap_setCell _ _ _ _ (by show b≠r;omega),hg.block b (by simp;omega) h2,zA _ _ _ h3]
 have hq':∀b,base≤b→some b≠v.ownBlock→b<w9.heap.size→some b≠v'.ownBlock:=fun b _ h2 h3 e=>by
  rcases hloc with h | h
  ·exact h2 (e.trans h)
  have:=zO (e.trans h);omega
 refine⟨hr10,oset2 hr10,?_,?_,?_,by omega,?_,?_⟩
 ·rw[Zq];exact ownsRow_setCell_other hown' hne' _
 ·refine ORow.append (ORow.one ?_) ?_
  ·refine OrdP.keep (fun b hb1 hlt=>?_) (by omega) (fun b hlt hb1=>?_) _ _ _ _ ht
   ·have hb1:wx.heap.size≤b:=hb1;exact key b (by omega) (fun e=>by have:=(hown_lt b e.symm).2;omega) hlt
   have hb1:wx.heap.size≤b:=hb1;exact⟨by omega,hq' b (by omega) (fun e=>by have:=(hown_lt b e.symm).2;omega) hlt⟩
  refine ORow.keep (fun b hb1 hlt=>?_) (by omega) (fun b hlt hb1=>⟨hb1.1,hq' b hb1.1 hb1.2 (by omega)⟩) hrow;rw[key b (by have:=hb1.1;omega) hb1.2 (by omega)];exact o9.block b hlt (fun e=>by have:=zO e;have:=hb1.1;omega)
 ·refine Oth.of_new (hTx.trans ((Oth.refl _ _).drew.trans o9)) ⟨?_,?_,?_,by omega,fun b hb1=>?_⟩
  ·exact hg.os
  ·exact hg.tape
  ·exact hg.output
  rw[Below.heap_setCell _ _ _ _ (by show b≠r;omega),hg.block b (by simp;omega) (fun e=>by have:=(hown_lt b e.symm).1;omega),zA _ _ _ (by omega)]
 ·intro b h1 h2 h3;rw[key b h2 (fun e=>by have:=(hown_lt b e.symm).1;omega) (by omega)];exact o9.block b (by show b<wx.heap.size;omega) (fun e=>h3 (zO e))
 exact key T (by omega) (fun e=>by have:=(hown_lt T e.symm).1;omega) (by omega)
theorem ord_parts{base lo:Nat}{W:World}{A:Option Addr}{c:Nat}{ts:List Lfc.Ord}{xs:List Value}(hlo:lo≤base)(hown:W.ownsRow base 26 3 (.slice A ts.length c) ts.length xs)(hrow:ORow (fun b=>base≤b∧some b≠(Value.slice A ts.length c).ownBlock) W ts xs) :
  OrdsAtP (fun b=>lo≤b) W A ts∧ts.length≤c:=by
 rcases hown.2 with⟨h1,h2⟩ | ⟨g,cap,cur,hv,hbg,hg,hnc,_,_,_⟩
 ·exact⟨fun hne=>absurd (Zz h2) hne,by rw[h2];exact Nat.zero_le _⟩
 injection hv with e1 _ e3;subst e1 e3;refine⟨fun _=>⟨g,0,rfl,zL hg,by show lo≤g;omega,?_⟩,hnc⟩;exact(ORow.keep (fun _ _ _=>rfl) (zN _) (fun b _ hb=>by have:=hb.1;show lo≤b;omega) hrow).lie (own_cellsO hown)
end
section
open Go.RowKit Go.Maps
attribute [local go_sem ↓] Go.wp_at_zero Go.wp_at_succ
theorem oput3{W:World}{R:Nat}{a0 a1 a2:Value}{t:TypeId}(h:W.heap[R]?=some (.cells #[a0,a1,a2] t (0,0)))(v0 v1 v2:Value):∃s1 s2 s3,W.setCell ⟨R,0,none⟩ v0=s1∧s1.setCell ⟨R,1,none⟩ v1=s2∧s2.setCell ⟨R,2,none⟩ v2=s3 ∧
  (W.cell? ⟨R,0,none⟩=some a0∧s1.cell? ⟨R,1,none⟩=some a1∧s2.cell? ⟨R,2,none⟩=some a2) ∧
  (W.frozen? ⟨R,0,none⟩=false∧s1.frozen? ⟨R,1,none⟩=false∧s2.frozen? ⟨R,2,none⟩=false) ∧
  s3.heap[R]?=some (.cells #[v0,v1,v2] t (0,0))∧Oth R W s3:=by
 obtain⟨s1,h1⟩:∃s1,W.setCell ⟨R,0,none⟩ v0=s1:=⟨_,rfl⟩;obtain⟨s2,h2⟩:∃s2,s1.setCell ⟨R,1,none⟩ v1=s2:=⟨_,rfl⟩;obtain⟨s3,h3⟩:∃s3,s2.setCell ⟨R,2,none⟩ v2=s3:=⟨_,rfl⟩;have q1:s1.heap[R]?=some (.cells #[v0,a1,a2] t (0,0)):=zU h h1;have q2:s2.heap[R]?=some (.cells #[v0,v1,a2] t (0,0)):=zU q1 h2;have q3:s3.heap[R]?=some (.cells #[v0,v1,v2] t (0,0)):=zU q2 h3;refine⟨s1,s2,s3,h1,h2,h3,⟨zC h 0,zC q1 1,zC q2 2⟩,⟨zF h 0,zF q1 1,zF q2 2⟩,q3,?_⟩;rw[←h3,←h2,←h1];exact((Oth.set W v0).trans (Oth.set _ v1)).trans (Oth.set _ v2)
theorem ord_node(o:Lfc.Ord):∃k a ts,o=.node k a ts:=by
 cases o with
 |node k a ts=>exact⟨k,a,ts,rfl⟩
theorem oalloc_loc{w:World}{o:Obj}{v v':Value}(h:v'.ownBlock=v.ownBlock∨v'.ownBlock=some (w.alloc o).heap.size):v'.ownBlock=v.ownBlock∨v'.ownBlock=some (w.heap.size+1):=by simpa using h
theorem oalloc_le{w:World}{o:Obj}{b:Nat}(h:b≤w.heap.size):b≤(w.alloc o).heap.size:=by simp;omega
theorem ocells_new(W:World)(n:Nat)(hn:n=W.heap.size)(xs:List Value)(e:TypeId)(j:Nat)(u:Value)(h:xs[j]?=some u):(W.alloc (.cells xs.toArray e)).cell? ((⟨n,0,none⟩:Addr).add j)=some u:=by
 subst hn;rw[ocell_add,zC (zW W _)];simpa using h
theorem oform{w:World}{base:Nat}{e:TypeId}{size n:Nat}{v:Value}{xs:List Value}(h:w.ownsRow base e size v n xs):∃A c,v=.slice A n c:=by
 rcases h.2 with⟨rfl,rfl⟩ | ⟨g,cap,cur,rfl,_⟩
 ·exact⟨_,_,rfl⟩
 exact⟨_,_,rfl⟩
theorem oneCell3{k a:Int}{A:Option Addr}{l c:Nat}:∀u∈[Value.int .i64 k,.int .i64 a,.slice A l c],u.oneCell'=true:=by
 intro u hu;simp at hu;rcases hu with rfl | rfl | rfl <;> rfl
end
end Go.Proofs.YtadjpadieljjlaaGreat
