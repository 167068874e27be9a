/- Parts of the proof that no input makes the law false: StepApp, RawMade, RawSpoil, OpClone, OpMap, OpFn. -/
import Derived.Maps.AppendAt
import Derived.Deep.RegionLaw
import Derived.Test.YthajalgkjonaaaaGreatDoorBxAD
set_option linter.unusedVariables false
set_option linter.unusedSimpArgs false
set_option maxRecDepth 100000
set_option maxHeartbeats 32000000
namespace Go.Proofs.YthajalgkjonaaaaGreatDoor
section
open Go.RowKit
section
variable {P:Program} (w:World)
theorem step_append_own_at{ops:Array Oper}{o:Oper}{a:Act}{K:Act→World→Prop}{Q:Exit→Act→World→Prop}{E:Prop}(hgd:o.guard=none)(s x:Operand)(t:TypeId)
  (ho:o.op=.call { callee:=.builtin .append,args:=#[s,x],argTypes:=#[t,t] })
  (base:Nat) (e:TypeId) (i:TypeInfo) (z:Value) (size bytes:Nat) (ht:P.underlying t=some (.slice e)) (hi:P.info? e=some i) (hz:i.zero=some z)
  (hsize:i.size=size) (hby:i.bytes=bytes) (hzs:z.cells.size=size) (hsz:0<size)
  (v:Value) (n:Nat) (xs:List Value) (hs:a.eval s=v) (hown:w.ownsRow base e size v n xs)
  (ad:Addr) (m c:Nat) (news:List Value) (hx:a.eval x=.slice (some ad) m c) (hl:news.length=m*size) (hnews:∀j u,news[j]?=some u→w.cell? (ad.add j)=some u) (h1:∀u∈news,u.oneCell'=true)
  (h63:n+m≤maxLen) (hbytes:(n+m)*bytes≤140737488355328) (hbase:base≤w.heap.size)
  (h:∀v' w',w'.ownsRow base e size v' (n+m) (xs++news)→w.grownBy w' v.ownBlock→(v'.ownBlock=v.ownBlock∨v'.ownBlock=some w.heap.size)→K (a.put o.dst v') w') :
  if Region.wanted o (yielded ops a.tmps)=true then Oper.wp P o a w K Q else E:=by
 have hw:Region.wanted o (yielded ops a.tmps)=true:=by simp[Region.wanted,hgd]
 rw[if_pos hw];obtain⟨v',w',hr,h2,h3,h4,h5⟩:=run_append_own_at (P:=P) w base t o.type e i z size bytes ht hi hz hsize hby hzs hsz v n xs hown ad m c news hl hnews h1 h63 hbytes hbase;unfold Oper.wp execOp;simp only[ho,resolve,invoke,builtin,Sem.run_bind,Sem.run_pure,Result.andThen_ok,List.map_toArray,List.map_cons,List.map_nil,hs,hx,hr];exact h v' w' h2 h3 h5
end
end
section
open Go.RowKit Go.Maps Go.WideMaps _root_.Lfc
theorem TapeAt.oth{T R:Nat}{w w':World}(h:TapeAt T w)(hR:T<R)(ho:Oth R w w'):TapeAt T w':=by
 have hlt:=h.lt;obtain⟨A,n,c,i,ht,hi,hn,hc⟩:=h.t;obtain⟨b,o,cw,h1,h2,h3,h4⟩:=h.words;refine⟨⟨A,n,c,i,ho.heap ht (by omega),hi,hn,fun hp=>?_⟩,⟨b,o,cw,(ho.cell (p:=⟨_,0,none⟩) (by simp only;omega) (by simp only;omega)).trans h1,h2,h3,fun k hk=>(ho.cell (p:=⟨b,o+k,none⟩) (by simp only;omega) (by simp only;omega)).trans (h4 k hk)⟩⟩;obtain⟨b,o,hA,hbT,hx⟩:=hc hp;refine⟨b,o,hA,hbT,fun k hk=>?_⟩;obtain⟨x,hx⟩:=hx k hk;exact⟨x,(ho.cell (p:=⟨b,o+k,none⟩) (by simp only;omega) (by simp only;omega)).trans hx⟩
theorem words_oth{w w':World}{T wb wo c:Nat}(ho:Oth T w.drew w')(h1:0<w.heap.size)(h2:wb<w.heap.size)(h3:0≠T)(h4:wb≠T)
  (h:w.cell? ⟨0,0,none⟩=some (.slice (some ⟨wb,wo,none⟩) 13 c)∧∀k,k<13→w.cell? ⟨wb,wo+k,none⟩=some (S (Lfc.words.getD k []))) :
  w'.cell? ⟨0,0,none⟩=some (.slice (some ⟨wb,wo,none⟩) 13 c)∧∀k,k<13→w'.cell? ⟨wb,wo+k,none⟩=some (S (Lfc.words.getD k [])) :=
 ⟨(ho.cell (p:=⟨_,0,none⟩) h1 h3).trans h.1,fun k hk=>(ho.cell (p:=⟨wb,wo+k,none⟩) h2 h4).trans (h.2 k hk)⟩
theorem words_set{w:World}{R j wb wo c:Nat}{v:Value}(h3:R≠0)(h4:R≠wb)
  (h:w.cell? ⟨0,0,none⟩=some (.slice (some ⟨wb,wo,none⟩) 13 c)∧∀k,k<13→w.cell? ⟨wb,wo+k,none⟩=some (S (Lfc.words.getD k []))) :
  (w.setCell ⟨R,j,none⟩ v).cell? ⟨0,0,none⟩=some (.slice (some ⟨wb,wo,none⟩) 13 c)∧∀k,k<13→(w.setCell ⟨R,j,none⟩ v).cell? ⟨wb,wo+k,none⟩=some (S (Lfc.words.getD k [])) :=
 ⟨(World.cell?_of_block (Below.heap_setCell _ _ _ _ (Ne.symm h3))).trans h.1,fun k hk=>(World.cell?_of_block (Below.heap_setCell _ _ _ _ (Ne.symm h4))).trans (h.2 k hk)⟩
theorem TreeVP.open_{q:Nat→Prop}{w:World}{k p:Int}{n:List UInt8}{ts:List Raw}{v:Value}(h:TreeVP q w (.node k n p ts) v):∃A c,v=.agg #[.int .i64 k,S n,.int .i64 p,.slice A ts.length c]∧TreeP q w (.node k n p ts) (.int .i64 k) (S n) (.int .i64 p) (.slice A ts.length c):=by
 obtain⟨v0,v1,v2,v3,rfl,h⟩:=h;have h':=h;rw[TreeP] at h;obtain⟨rfl,rfl,_,rfl,A,c,rfl,_⟩:=h;exact⟨A,c,rfl,h'⟩
theorem cells4{W:World}{g:Nat}{v0 v1 v2 v3:Value}{t:TypeId}(h:W.heap[g]?=some (.cells #[v0,v1,v2,v3] t (0,0))):W.cell? ⟨g,0,none⟩=some v0∧W.cell? ⟨g,1,none⟩=some v1∧W.cell? ⟨g,2,none⟩=some v2∧W.cell? ⟨g,3,none⟩=some v3 :=
 ⟨zC h 0,zC h 1,zC h 2,zC h 3⟩
theorem raw_size:(Tryz.prog.info? 46).map (·.size)=some 4:=by kernel_rfl
theorem results_raw{fn:Func}{p:Tmp}(h:fn.results=#[.cell p 46])(tmps:Array Value)(w:World)(g:Nat)(v0 v1 v2 v3:Value)(hp:tmps.getD p undef=.pointer (some ⟨g,0,none⟩))(hg:w.heap[g]?=some (.cells #[v0,v1,v2,v3] 46 (0,0))) :
  (results fn tmps).run Tryz.prog w=.ok (.agg #[v0,v1,v2,v3]) w :=
 results_cell_row h tmps w g _ _ _ _ hp hg Tryz.underlying46 rfl raw_size
theorem row_final{q:Nat→Prop}{W:World}{r g j:Nat}{ts:List Raw}{xs:List Value}{v:Value}(hrow:RowP q W ts xs)(hc:CellsAt W g 0 xs)(hg:g<W.heap.size)(hqg:q g)(hqr:∀b,q b→b≠r):TreesAtP q (W.setCell ⟨r,j,none⟩ v) (some ⟨g,0,none⟩) ts:=by
 have h:TreesAtP q W (some ⟨g,0,none⟩) ts:=fun _=>⟨g,0,rfl,hg,hqg,hrow.lie hc⟩;refine h.keep (fun b hb _=>Below.heap_setCell _ _ _ _ (hqr b hb)) (by simp[World.setCell]) (fun b _ hb=>hb)
theorem set3{W:World}{r:Nat}{v0 v1 v2 v3 v:Value}{t:TypeId}(h:W.heap[r]?=some (.cells #[v0,v1,v2,v3] t (0,0))):(W.setCell ⟨r,3,none⟩ v).heap[r]?=some (.cells #[v0,v1,v2,v] t (0,0)):=by
 simp[World.setCell,zM,h]
theorem set1{W:World}{r:Nat}{v0 v1 v2 v3 v:Value}{t:TypeId}(h:W.heap[r]?=some (.cells #[v0,v1,v2,v3] t (0,0))):(W.setCell ⟨r,1,none⟩ v).heap[r]?=some (.cells #[v0,v,v2,v3] t (0,0)):=by
 simp[World.setCell,zM,h]
theorem cellsAt_new(W:World)(xs:List Value)(t:TypeId):CellsAt (W.alloc (.cells xs.toArray t)) W.heap.size 0 xs:=by
 intro j u hj;rw[zC (zW W _)];simpa using hj
theorem pair_final{w4 w5 w6 w7:World}{T r lo:Nat}{t5 t7:Raw}{a0 a1 a2 a3 b0 b1 b2 b3 v:Value}(h4:r<w4.heap.size)(hlo:lo<r)(hT:T<w4.heap.size)(o5:w4.heap.size≤w5.heap.size)(b6:Below w5.heap.size w5 w6)(o7:Oth T w6.drew w7)
  (h5:TreeP (fun b=>w4.heap.size≤b) w5 t5 a0 a1 a2 a3) (h7:TreeP (fun b=>w6.drew.heap.size≤b) w7 t7 b0 b1 b2 b3) :
  TreesAtP (fun b=>lo<b) ((w7.alloc (.cells #[a0,a1,a2,a3,b0,b1,b2,b3] 46)).setCell ⟨r,3,none⟩ v) (some ⟨w7.heap.size,0,none⟩) [t5,t7]:=by
 have s6:=b6.size;have s7:w6.heap.size≤w7.heap.size:=o7.size;have k5:TreeP (fun b=>w4.heap.size≤b) (w7.alloc (.cells #[a0,a1,a2,a3,b0,b1,b2,b3] 46)) t5 a0 a1 a2 a3:=by
  refine TreeP.keep (fun b hb hlt=>?_) (by simp;omega) (fun b _ hb=>hb) _ _ _ _ _ h5;have hb:w4.heap.size≤b:=hb;rw[zA _ _ _ (by omega)];exact(o7.block b (by show b<w6.heap.size;omega) (fun e=>by have:=zO e;omega)).trans (b6.block b hlt)
 have k7:TreeP (fun b=>w4.heap.size≤b) (w7.alloc (.cells #[a0,a1,a2,a3,b0,b1,b2,b3] 46)) t7 b0 b1 b2 b3:=by
  refine TreeP.keep (fun b hb hlt=>zA _ _ _ hlt) (by simp) (fun b _ hb=>?_) _ _ _ _ _ h7;have hb:w6.heap.size≤b:=hb;show w4.heap.size≤b;omega
 have h:=row_final (j:=3) (v:=v) ((RowP.one k7).append (RowP.one k5)) (cellsAt_new w7 [a0,a1,a2,a3,b0,b1,b2,b3] 46) (by simp) (show w4.heap.size≤w7.heap.size by omega) (r:=r) (fun b hb=>by have hb:w4.heap.size≤b:=hb;omega);exact h.keep (fun _ _ _=>rfl) (zN _) (fun b _ hb=>by have hb:w4.heap.size≤b:=hb;show lo<b;omega)
theorem grown_tape{T base:Nat}{w w':World}{row:Option Nat}(h:TapeAt T w)(hg:w.grownBy w' row)(hrow:∀g,row=some g→base≤g)(hT:T<base):TapeAt T w':=by
 cases row with
 |none=>exact h.below ⟨hg.os,hg.tape,hg.output,hg.size,fun k hk=>hg.block k hk (by simp)⟩
 |some g=>exact h.oth (by have:=hrow g rfl;omega) hg
theorem binder_final{base T r:Nat}{wx w9 w10 wa:World}{v v' k n p a0 a1 a2 a3:Value}{ts:List Raw}{xs:List Value}{t:Raw}(hr:r<base)(hT:T<r)(hb:base≤wx.heap.size)(hwa:wa.heap.size≤r)
  (hR:wx.heap[r]?=some (.cells #[k,n,p,v] 46 (0,0))) (hown:wx.ownsRow base 46 4 v ts.length xs) (hrow:RowP (fun b=>base≤b∧some b≠v.ownBlock) wx ts xs)
  (hTx:Oth T wa wx) (o9:Oth T wx.drew w9) (T9:TapeAt T w9) (ht:TreeP (fun b=>wx.drew.heap.size≤b) w9 t a0 a1 a2 a3)
  (hown':w10.ownsRow base 46 4 v' (ts.length+1) (xs++[a0,a1,a2,a3]))
  (hg:(w9.alloc (.cells #[a0,a1,a2,a3] 46)).grownBy w10 v.ownBlock) (hloc:v'.ownBlock=v.ownBlock∨v'.ownBlock=some (w9.heap.size+1)) :
  w10.heap[r]?=some (.cells #[k,n,p,v] 46 (0,0))∧(w10.setCell ⟨r,3,none⟩ v').heap[r]?=some (.cells #[k,n,p,v'] 46 (0,0))∧(w10.setCell ⟨r,3,none⟩ v').ownsRow base 46 4 v' (ts++[t]).length (xs++[a0,a1,a2,a3]) ∧
  RowP (fun b=>base≤b∧some b≠v'.ownBlock) (w10.setCell ⟨r,3,none⟩ v') (ts++[t]) (xs++[a0,a1,a2,a3])∧TapeAt T (w10.setCell ⟨r,3,none⟩ v')∧Oth T wa (w10.setCell ⟨r,3,none⟩ v')∧base≤(w10.setCell ⟨r,3,none⟩ v').heap.size:=by
 have s9:wx.heap.size≤w9.heap.size:=o9.size;have s10:w9.heap.size+1≤w10.heap.size:=by have:=hg.size;simpa using this
 have hrx:=zL hR;have hown_lt:∀g,v.ownBlock=some g→base≤g∧g<wx.heap.size:=fun g e=>hown.lt g e;have hne:some r≠v.ownBlock:=fun e=>by have:=(hown_lt r e.symm).1;omega
 have hr9:w9.heap[r]?=some (.cells #[k,n,p,v] 46 (0,0)):=o9.heap hR (by omega);have hr10:w10.heap[r]?=some (.cells #[k,n,p,v] 46 (0,0)):=(hg.block r (by simp;omega) hne).trans (heap_alloc_old _ _ _ _ hr9);have hne':v'.ownBlock≠some r:=fun e=>by have:=(hown'.lt r e).1;omega
 have hsz:(w10.setCell ⟨r,3,none⟩ v').heap.size=w10.heap.size:=by simp[World.setCell]
 have key:∀b,base≤b→some b≠v.ownBlock→b<w9.heap.size→(w10.setCell ⟨r,3,none⟩ v').heap[b]?=w9.heap[b]?:=fun b h1 h2 h3=>by
  rw[Below.heap_setCell _ _ _ _ (by show b≠r;omega),hg.block b (by simp;omega) h2,zA _ _ _ h3]
 have hq':∀b,base≤b→some b≠v.ownBlock→b<w9.heap.size→some b≠v'.ownBlock:=fun b _ h2 h3 e=>by
  rcases hloc with h | h
  ·exact h2 (e.trans h)
  have:=zO (e.trans h);omega
 refine⟨hr10,set3 hr10,?_,?_,?_,?_,by omega⟩
 ·rw[Zq];exact ownsRow_setCell_other hown' hne' _
 ·refine RowP.append (RowP.one ?_) ?_
  ·refine TreeP.keep (fun b hb1 hlt=>?_) (by omega) (fun b hlt hb1=>?_) _ _ _ _ _ ht
   ·have hb1:wx.heap.size≤b:=hb1;exact key b (by omega) (fun e=>by have:=(hown_lt b e.symm).2;omega) hlt
   have hb1:wx.heap.size≤b:=hb1;exact⟨by omega,hq' b (by omega) (fun e=>by have:=(hown_lt b e.symm).2;omega) hlt⟩
  refine RowP.keep (fun b hb1 hlt=>?_) (by omega) (fun b hlt hb1=>⟨hb1.1,hq' b hb1.1 hb1.2 (by omega)⟩) hrow;rw[key b hb1.1 hb1.2 (by omega)];exact o9.block b hlt (fun e=>by have:=zO e;have:=hb1.1;omega)
 ·exact(grown_tape (T9.below ((zB _ _).alloc (zN _) _)) hg (fun g e=>(hown_lt g e).1) (by omega)).oth hT (Oth.set _ _)
 refine Oth.of_new (hTx.trans ((Oth.refl _ _).drew.trans o9)) ⟨?_,?_,?_,by omega,fun b hb1=>?_⟩
 ·exact hg.os
 ·exact hg.tape
 ·exact hg.output
 rw[Below.heap_setCell _ _ _ _ (by show b≠r;omega),hg.block b (by simp;omega) (fun e=>by have:=(hown_lt b e.symm).1;omega),zA _ _ _ (by omega)]
theorem binder_trees{base lo:Nat}{W:World}{A:Option Addr}{c:Nat}{ts:List Raw}{xs:List Value}(hlo:lo<base)(hown:W.ownsRow base 46 4 (.slice A ts.length c) ts.length xs)(hrow:RowP (fun b=>base≤b∧some b≠(Value.slice A ts.length c).ownBlock) W ts xs) :
  TreesAtP (fun b=>lo<b) W A ts∧ts.length≤c:=by
 rcases hown.2 with⟨h1,h2⟩ | ⟨g,cap,cur,hv,hbg,hg,hnc,_,_,_⟩
 ·exact⟨fun hne=>absurd (Zz h2) hne,by rw[h2];exact Nat.zero_le _⟩
 injection hv with e1 _ e3;subst e1 e3;refine⟨fun _=>⟨g,0,rfl,zL hg,by show lo<g;omega,?_⟩,hnc⟩;exact(RowP.keep (fun _ _ _=>rfl) (zN _) (fun b _ hb=>by have:=hb.1;show lo<b;omega) hrow).lie (own_cells hown)
theorem raw_info:∃i,Tryz.prog.info? 46=some i∧i.zero=some (.agg #[.int .i64 0,S [],.int .i64 0,.slice none 0 0])∧i.size=4∧i.bytes=56:=by
 obtain⟨i0,hi,hz0,hz1,hz2⟩:=info_parts (show(Tryz.prog.info? 46).map (fun i=>(i.zero,i.size,i.bytes))=some (some (.agg #[.int .i64 0,S [],.int .i64 0,.slice none 0 0]),4,56) by kernel_rfl);exact⟨i0,hi,hz0,hz1,hz2⟩
theorem binder_formed{k:Int}{n:List UInt8}{l:Nat}(hk:k=7∨k=8)(hn:(isName n || decide (n=[95]))=true)(hl:l=1∨l=2):formed k n l=true:=by
 unfold formed;rw[if_neg (by omega),if_neg (by omega),if_neg (by omega),if_pos hk,hn];rcases hl with rfl | rfl <;> rfl
theorem alloc_le{w:World}{o:Obj}{b:Nat}(h:b≤w.heap.size):b≤(w.alloc o).heap.size:=by simp;omega
theorem alloc_loc{w:World}{o:Obj}{v v':Value}(h:v'.ownBlock=v.ownBlock∨v'.ownBlock=some (w.alloc o).heap.size):v'.ownBlock=v.ownBlock∨v'.ownBlock=some (w.heap.size+1):=by simpa using h
theorem eq2{a b:Nat}(h:a=b):a≤b∧b≤a:=⟨Nat.le_of_eq h,Nat.le_of_eq h.symm⟩
theorem names4{w:World}{g:Nat}(r:Nat)(hr:r<4)(h:w.heap[g]?=some (.cells #[S [97],S [78],S [120],S [95]] 9 (0,0))):∃nm:List UInt8,(isName nm || decide (nm=[95]))=true∧nm.length≤10∧w.cell? ⟨g,r,none⟩=some (S nm):=by
 match r,hr with
 |0,_=>exact⟨[97],by decide,by decide,zC h 0⟩
 |1,_=>exact⟨[78],by decide,by decide,zC h 1⟩
 |2,_=>exact⟨[120],by decide,by decide,zC h 2⟩
 |3,_=>exact⟨[95],by decide,by decide,zC h 3⟩
theorem oneCell4{k p:Int}{n:List UInt8}{A:Option Addr}{l c:Nat}:∀u∈[Value.int .i64 k,S n,.int .i64 p,.slice A l c],u.oneCell'=true:=by
 intro u hu;simp at hu;rcases hu with rfl | rfl | rfl | rfl <;> rfl
def WordsAt(w:World):Prop:=∃b o c,w.cell? ⟨0,0,none⟩=some (.slice (some ⟨b,o,none⟩) 13 c)∧b<w.heap.size∧0<w.heap.size∧∀k,k<13→w.cell? ⟨b,o+k,none⟩=some (S (Lfc.words.getD k []))
theorem WordsAt.below{w w':World}(h:WordsAt w)(hb:Below w.heap.size w w'):WordsAt w':=by
 obtain⟨b,o,c,h1,h2,h3,h4⟩:=h;exact⟨b,o,c,(hb.cell (p:=⟨_,0,none⟩) h3).trans h1,Zl h2 hb.size,Zl h3 hb.size,fun k hk=>(hb.cell (p:=⟨b,o+k,none⟩) h2).trans (h4 k hk)⟩
theorem TreeP.one{q:Nat→Prop}{w:World}:∀{t:Raw}{v0 v1 v2 v3:Value},TreeP q w t v0 v1 v2 v3→v0.oneCell'=true∧v1.oneCell'=true∧v2.oneCell'=true∧v3.oneCell'=true
 |.node k n p ts,v0,v1,v2,v3,h=>by
  rw[TreeP] at h;obtain⟨rfl,rfl,_,rfl,A,c,rfl,_⟩:=h;exact⟨rfl,rfl,rfl,rfl⟩
theorem RowP.ones{q:Nat→Prop}{w:World}:∀{ts:List Raw}{xs:List Value},RowP q w ts xs→∀u∈xs,u.oneCell'=true
 |[],xs,h=>by rw[RowP] at h;subst h;intro u hu;cases hu
 |t :: r,xs,h=>by
  rw[RowP] at h;obtain⟨v0,v1,v2,v3,ys,rfl,ht,hr⟩:=h;have h1:=ht.one;intro u hu;simp only[List.mem_cons] at hu;rcases hu with rfl | rfl | rfl | rfl | hu
  ·exact h1.1
  ·exact h1.2.1
  ·exact h1.2.2.1
  ·exact h1.2.2.2
  exact hr.ones u hu
theorem cellsAdd{w:World}{b o:Nat}{xs:List Value}(h:CellsAt w b o xs):∀j u,xs[j]?=some u→w.cell? ((⟨b,o,none⟩:Addr).add j)=some u:=fun j u hj=>by
 rw[Go.WideShapes.add_plain];exact h j u hj
theorem RowP.get{q:Nat→Prop}{w:World}:∀{ts:List Raw}{xs:List Value}(i:Nat)(h:i<ts.length),RowP q w ts xs→∃v0 v1 v2 v3,xs[i*4]?=some v0∧xs[i*4+1]?=some v1∧xs[i*4+2]?=some v2∧xs[i*4+3]?=some v3∧TreeP q w ts[i] v0 v1 v2 v3
 |[],_,_,h,_=>by simp at h
 |t :: r,xs,i,h,hr=>by
  rw[RowP] at hr;obtain⟨v0,v1,v2,v3,ys,rfl,ht,hr⟩:=hr
  match i with
  |0=>exact⟨v0,v1,v2,v3,rfl,rfl,rfl,rfl,ht⟩
  |i+1 =>
   obtain⟨u0,u1,u2,u3,h0,h1,h2,h3,hu⟩:=RowP.get i (by simpa using h) hr;refine⟨u0,u1,u2,u3,?_,?_,?_,?_,hu⟩
   ·rw[show(i+1)*4=i*4+1+1+1+1 by omega];simpa using h0
   ·rw[show(i+1)*4+1=i*4+1+1+1+1+1 by omega];simpa using h1
   ·rw[show(i+1)*4+2=i*4+2+1+1+1+1 by omega];simpa using h2
   rw[show(i+1)*4+3=i*4+3+1+1+1+1 by omega];simpa using h3
theorem put4row{W:World}{g i:Nat}{xs:List Value}{cur:Array Value}{t:TypeId}(h:W.heap[g]?=some (.cells cur t (0,0)))(hc:CellsAt W g 0 xs)(hi:i*4+3<xs.length)(v0 v1 v2 v3:Value):∃s1 s2 s3 s4 a0 a1 a2 a3,W.setCell ⟨g,i*4,none⟩ v0=s1∧s1.setCell ⟨g,i*4+1,none⟩ v1=s2∧s2.setCell ⟨g,i*4+2,none⟩ v2=s3∧s3.setCell ⟨g,i*4+3,none⟩ v3=s4 ∧
  (W.cell? ⟨g,i*4,none⟩=some a0∧s1.cell? ⟨g,i*4+1,none⟩=some a1∧s2.cell? ⟨g,i*4+2,none⟩=some a2∧s3.cell? ⟨g,i*4+3,none⟩=some a3) ∧
  (W.frozen? ⟨g,i*4,none⟩=false∧s1.frozen? ⟨g,i*4+1,none⟩=false∧s2.frozen? ⟨g,i*4+2,none⟩=false∧s3.frozen? ⟨g,i*4+3,none⟩=false) ∧
  CellsAt s4 g 0 ((((xs.set (i*4) v0).set (i*4+1) v1).set (i*4+2) v2).set (i*4+3) v3)∧Oth g W s4:=by
 have fz:∀(j k:Nat)(V:World)(v:Value)(c:Array Value),V.heap[g]?=some (.cells c t (0,0))→(V.setCell ⟨g,j,none⟩ v).heap[g]?=some (.cells (c.set! j v) t (0,0)):=fun j k V v c hV=>by simp[World.setCell,zM,hV]
 have c1:=hc.set (j0:=i*4) v0;have c2:=c1.set (j0:=i*4+1) v1;have c3:=c2.set (j0:=i*4+2) v2;have c4:=c3.set (j0:=i*4+3) v3;simp only[Nat.zero_add] at c1 c2 c3 c4;have h1:=fz (i*4) 0 W v0 _ h;have h2:=fz (i*4+1) 0 _ v1 _ h1;have h3:=fz (i*4+2) 0 _ v2 _ h2;have e0:=hc (i*4) _ (Zg (by omega));have e1:=c1 (i*4+1) _ (Zg (by simp;omega));have e2:=c2 (i*4+2) _ (Zg (by simp;omega));have e3:=c3 (i*4+3) _ (Zg (by simp;omega));rw[Nat.zero_add] at e0 e1 e2 e3;exact⟨_,_,_,_,_,_,_,_,rfl,rfl,rfl,rfl,⟨e0,e1,e2,e3⟩,⟨zF h _,zF h1 _,zF h2 _,zF h3 _⟩,c4,(((Oth.set W v0).trans (Oth.set _ v1)).trans (Oth.set _ v2)).trans (Oth.set _ v3)⟩
theorem TreeP.name_le{q:Nat→Prop}{w:World}{k p:Int}{n:List UInt8}{ts:List Raw}{v0 v1 v2 v3:Value}(h:TreeP q w (.node k n p ts) v0 v1 v2 v3):n.length≤1000000:=by rw[TreeP] at h;exact h.2.2.1
theorem own_le{w:World}{base e size n c:Nat}{A:Option Addr}{xs:List Value}(h:w.ownsRow base e size (.slice A n c) n xs):n≤c:=by
 rcases h.2 with⟨_,h2⟩ | ⟨g,cap,cur,hv,_,_,hnc,_⟩
 ·omega
 injection hv with _ _ e3;omega
theorem TreesAtP.tail{q:Nat→Prop}{w:World}{g o:Nat}{t:Raw}{tr:List Raw}(h:TreesAtP q w (some ⟨g,o,none⟩) (t :: tr)):TreesAtP q w (some ⟨g,o+4,none⟩) tr:=fun _=>by
 obtain⟨b,o',hA,hlt,hqb,hts⟩:=h (by simp);cases hA;rw[TreesP] at hts;exact⟨g,o+4,rfl,hlt,hqb,hts.2⟩
theorem TreesAtP.drew{q:Nat→Prop}{w:World}{A:Option Addr}{ts:List Raw}(h:TreesAtP q w A ts):TreesAtP q w.drew A ts :=
 TreesAtP.keep (w:=w) (w':=w.drew) (fun _ _ _=>rfl) (zN w.heap.size) (fun _ _ h=>h) h
theorem sclone_any(q:Nat->Prop)(ts:List Raw)(A:Option Addr)(c:Nat)(w:World)(hl:ts.length<=1000000000)(h:TreesAtP q w A ts) :
  Calls Tryz.prog 98 #[.slice A ts.length c] w fun e w'=>∃A' c' xs,e=.returned (.slice A' ts.length c')/\Hid (w'.ownsRow w.heap.size 46 4 (.slice A' ts.length c') ts.length xs)/\Hid (RowP (fun b=>q b/\b<w.heap.size) w' ts xs)/\zb w w':=by
 obtain⟨i0,hi,hz0,hz1,hz2⟩:=raw_info;rcases A with _ | A
 ·have hts:ts=[]:=by
   by_cases e:ts=[]
   ·exact e
   obtain⟨b,o,hA,_⟩:=h e;cases hA
  subst hts;simp only[List.length_nil] at *;have hnil:∀W:World,(binOp .eql 32 (.slice none 0 c) zS).run Tryz.prog W=.ok (.bool true) W:=fun _=>rfl;clear h;go_enter Tryz.func98,Tryz.ntmps98;go_wp2_with fail;go_ret;exact⟨none,0,[],rfl,zH (own_nil _ _ _ _),zH (by rw[RowP]),zB _ _⟩
 obtain⟨xs,hrow,hcells,hx⟩:∃xs,RowP (fun b=>q b/\b<w.heap.size) w ts xs/\(∀j u,xs[j]?=some u->w.cell? (A.add j)=some u)/\xs.length=ts.length*4:=by
  by_cases e:ts=[]
  ·subst e;exact⟨[],by rw[RowP],fun j u hj=>by simp at hj,by simp⟩
  obtain⟨b,o,hA,hb,hqb,hT⟩:=h e;cases hA;obtain⟨xs,hr,hc⟩:=hT.row;exact⟨xs,hr.keep (fun _ _ _=>rfl) (zN _) (fun b hlt hb=>⟨hb,hlt⟩),cellsAdd hc,by have:=hr.len;omega⟩
 have hone:=hrow.ones;have hlm:0+ts.length<=maxLen:=by unfold maxLen;omega
 have hl56:(0+ts.length)*56<=140737488355328:=by omega
 have HROW:=zH hrow;have hown0:(w.alloc (.cells #[] 46)).ownsRow w.heap.size 46 4 (.slice (some ⟨w.heap.size,0,none⟩) 0 0) 0 [] :=
  ⟨rfl,.inr ⟨w.heap.size,0,#[],rfl,zN _,zW _ _,zN _,by unfold maxLen;omega,rfl,rfl⟩⟩
 have hc2:∀j u,xs[j]?=some u->(w.alloc (.cells #[] 46)).cell? (A.add j)=some u:=fun j u hj=>by
  have h1:=hcells j u hj;have h2:(A.add j).block<w.heap.size:=by
   rcases Nat.lt_or_ge (A.add j).block w.heap.size with h3 | h3
   ·exact h3
   unfold World.cell? at h1;rw[Array.getElem?_eq_none h3] at h1;cases h1
  rw[World.cell?_of_block (zA w _ _ h2)];exact h1
 have HOWN:=zH hown0;have HC2:=zH hc2;have b1:zb w (w.alloc (.cells #[] 46)):=(zB _ _).alloc (zN _) _;have hnil:∀W:World,(binOp .eql 32 (.slice (some A) ts.length c) zS).run Tryz.prog W=.ok (.bool false) W:=fun _=>rfl;clear h hrow hcells hown0 hc2;go_enter Tryz.func98,Tryz.ntmps98;go_wp2_with (at_builtin;refine wpList_append_own_at _ rfl _ _ 32 rfl w.heap.size 46 i0 (.agg #[zI 0,S [],zI 0,zS]) 4 56 Tryz.underlying32 hi hz0 hz1 hz2 rfl (by decide) _ _ _ rfl HOWN.o A ts.length c xs rfl hx HC2.o hone hlm hl56 (by simp) ?_);intro v' w2 hown2 hg2 _ _;obtain⟨A2,c2,rfl⟩:=own_form hown2;have HO2:=zH hown2;have b2:zb w w2:=b1.grown hg2 (by simp) (own_block_ge HOWN.o);have HR2:Hid (RowP (fun b=>q b/\b<w.heap.size) w2 ts xs):=zH (HROW.o.keep (fun b hb _=>b2.block b hb.2) b2.size (fun _ _ h=>h));clear hown2 hg2;go_wp2_with fail;go_ret;exact⟨A2,c2,xs,rfl,by simpa using HO2,HR2,b2⟩
theorem TreeVP.parts4{q:Nat→Prop}{w:World}{t:Raw}{v:Value}(h:TreeVP q w t v):∃k n p ts A c,t=.node k n p ts∧v=.agg #[.int .i64 k,S n,.int .i64 p,.slice A ts.length c]∧TreeP q w t (.int .i64 k) (S n) (.int .i64 p) (.slice A ts.length c):=by
 obtain⟨k,n,p,ts⟩:=t;obtain⟨A,c,rfl,h1⟩:=h.open_;exact⟨k,n,p,ts,A,c,rfl,rfl,h1⟩
def CloneUptoN(m:Nat):Prop:=∀(t:Raw)(v:Value)(w:World)(q:Nat→Prop),t.size≤m→TreeVP q w t v →
  Calls Tryz.prog 122 #[v] w fun e w'=>(∃v',e=.returned v'∧TreeVP (fun b=>w.heap.size≤b) w' t v')∧Below w.heap.size w w'
structure CloneI(w w1:World)(q:Nat→Prop)(k p:Int)(n:List UInt8)(ts:List Raw)(A:Option Addr)(c:Nat)(j:Nat)(xs:List Value)(wr:World):Prop where
 box:wr.heap[w.heap.size]?=some (.cells #[.int .i64 k,S n,.int .i64 p,.slice A ts.length c] 46 (0,0))
 res:wr.heap[w.heap.size+1]?=some (.cells #[.int .i64 0,S [],.int .i64 0,.slice none 0 0] 46 (0,0))
 own:wr.ownsRow (w.heap.size+2) 46 4 (.slice A ts.length c) ts.length xs
 row:RowP (fun b=>(q b∧b<w.heap.size)∨w1.heap.size≤b) wr ts xs
 bel:Below w.heap.size w wr
 size:w1.heap.size≤wr.heap.size
 fresh:RowP (fun b=>w1.heap.size≤b) wr (ts.take j) (xs.take (j*4))
theorem take_set4(ys:List Value)(j:Nat)(a b c d:Value)(h:j*4+3<ys.length):((((ys.set (j*4) a).set (j*4+1) b).set (j*4+2) c).set (j*4+3) d).take ((j+1)*4)=ys.take (j*4)++[a,b,c,d]:=by
 apply List.ext_getElem?;intro i;have hl:(ys.take (j*4)).length=j*4:=by rw[List.length_take];omega
 rcases Nat.lt_or_ge i (j*4) with h1 | h1
 ·rw[List.getElem?_append_left (by omega),List.getElem?_take_of_lt (by omega),List.getElem?_take_of_lt h1,List.getElem?_set_ne (by omega),List.getElem?_set_ne (by omega),List.getElem?_set_ne (by omega),List.getElem?_set_ne (by omega)]
 rw[List.getElem?_append_right (by omega),hl];rcases(show i=j*4∨i=j*4+1∨i=j*4+2∨i=j*4+3∨(j+1)*4≤i by omega) with rfl | rfl | rfl | rfl | h2
 ·rw[List.getElem?_take_of_lt (by omega),List.getElem?_set_ne (by omega),List.getElem?_set_ne (by omega),List.getElem?_set_ne (by omega),List.getElem?_set_self (by omega),Nat.sub_self];rfl
 ·rw[List.getElem?_take_of_lt (by omega),List.getElem?_set_ne (by omega),List.getElem?_set_ne (by omega),List.getElem?_set_self (by simp;omega),show j*4+1-j*4=1 by omega];rfl
 ·rw[List.getElem?_take_of_lt (by omega),List.getElem?_set_ne (by omega),List.getElem?_set_self (by simp;omega),show j*4+2-j*4=2 by omega];rfl
 ·rw[List.getElem?_take_of_lt (by omega),List.getElem?_set_self (by simp;omega),show j*4+3-j*4=3 by omega];rfl
 rw[List.getElem?_eq_none (by rw[List.length_take];omega),List.getElem?_eq_none (by simp;omega)]
theorem own_set4{W s4:World}{base g i n c:Nat}{xs:List Value}{v0 v1 v2 v3:Value}{s1 s2 s3:World}(h:W.ownsRow base 46 4 (.slice (some ⟨g,0,none⟩) n c) n xs)(h1:W.setCell ⟨g,i*4,none⟩ v0=s1)(h2:s1.setCell ⟨g,i*4+1,none⟩ v1=s2)(h3:s2.setCell ⟨g,i*4+2,none⟩ v2=s3)(h4:s3.setCell ⟨g,i*4+3,none⟩ v3=s4) :
  s4.ownsRow base 46 4 (.slice (some ⟨g,0,none⟩) n c) n ((((xs.set (i*4) v0).set (i*4+1) v1).set (i*4+2) v2).set (i*4+3) v3):=by
 have one:∀(V:World)(ys:List Value)(j:Nat)(v:Value),V.ownsRow base 46 4 (.slice (some ⟨g,0,none⟩) n c) n ys→(V.setCell ⟨g,j,none⟩ v).ownsRow base 46 4 (.slice (some ⟨g,0,none⟩) n c) n (ys.set j v):=fun V ys j v hV=>by
  obtain⟨hl,hr⟩:=hV;rcases hr with⟨hv,_⟩ | ⟨g',cap,cur,hv,hbg,hg,hnc,hcm,hcs,htk⟩
  ·cases hv
  injection hv with e1 _ e3;cases e1;subst e3;refine⟨by simpa using hl,.inr ⟨g,c,cur.set! j v,rfl,hbg,by simp[World.setCell,zM,hg],hnc,hcm,by simpa using hcs,?_⟩⟩;rw[←htk];simp[Array.set!,List.take_set]
 subst h1 h2 h3 h4;exact one _ _ _ _ (one _ _ _ _ (one _ _ _ _ (one _ _ _ _ h)))
theorem clone_step(m:Nat)(hm:m<=100000000)(ih:CloneUptoN m):CloneUptoN (m+1):=by
 intro t v w q hsz hv;obtain⟨k,n,p,ts⟩:=t;obtain⟨A,c,rfl,hp⟩:=hv.open_;obtain⟨wa,hwa⟩:∃wa,(w.alloc (.cells (zT k n p A ts c) 46)).alloc (.cells #[zI 0,S [],zI 0,zS] 46)=wa:=⟨_,rfl⟩;have qx:zk wa w.heap.size (zT k n p A ts c) 46:=by rw[<-hwa];exact heap_alloc_old _ _ _ _ (zW _ _)
 have qr:wa.heap[w.heap.size+1]?=some (.cells #[zI 0,S [],zI 0,zS] 46 (0,0)):=by
  rw[<-hwa];have:=zW (w.alloc (.cells (zT k n p A ts c) 46)) (.cells #[zI 0,S [],zI 0,zS] 46);simpa using this
 have ba:zb w wa:=by rw[<-hwa];exact((zB _ _).alloc (zN _) _).alloc (by simp) _
 have hsa:=eq2 (show wa.heap.size=w.heap.size+2 by rw[<-hwa];simp);simp only[Raw.size] at hsz;have hlen:=Raw.sizes_len ts;have hnm:n.length<=1000000:=hp.name_le;have hT0:TreesAtP (fun b=>q b/\b<w.heap.size) wa A ts:=by
  rw[TreeP] at hp;obtain⟨_,_,_,_,A',c',hA',_,hts'⟩:=hp;cases hA';exact TreesAtP.keep (w:=w) (fun b _ hlt=>ba.block b hlt) ba.size (fun b hlt hb=>⟨hb,hlt⟩) hts'
 have C1:=zH (sclone_any _ ts A c wa (by omega) hT0);have HQX:=zH qx;have HQR:=zH qr;have BA:=zH ba;have IH:=zH ih;obtain⟨x0,x1,x2,x3⟩:=cells4 qx;clear qx qr ba hp ih hv hT0;go_enter Tryz.func122,Tryz.ntmps122;go_upto_region 1 with fail;clear hwa;go_wp2_with fail;refine C1.o.mono ?_;rintro e w1⟨A',c',xs,rfl,HO,HR,b1⟩;have B1:=zH b1;have hs1:=b1.size;have qb1:=(b1.block _ (by omega)).trans HQX.o;have f3:=zF qb1 3;have y3:=zC qb1 3;simp at y3;obtain⟨w2,hw2⟩:∃w2,w1.setCell ⟨w.heap.size,3,none⟩ (.slice A' ts.length c')=w2:=⟨_,rfl⟩;have qb2:zk w2 w.heap.size (zT k n p A' ts c') 46:=by rw[<-hw2];exact set3 qb1
 have o12:Oth w.heap.size w1 w2:=zV hw2;have hA'lt:∀b,(Value.slice A' ts.length c').ownBlock=some b->w.heap.size+2<=b/\b<w1.heap.size:=fun b hb=>by have:=HO.o.lt b hb;omega
 have L0:Hid (CloneI w w1 q k p n ts A' c' 0 xs w2):=by
  refine zH ⟨qb2,o12.heap ((b1.block _ (by omega)).trans HQR.o) (by omega),?_,?_,Oth.below (BA.o.trans (b1.mono (by omega))) o12 (zN _) (by omega),o12.size,by rw[List.take_zero,Nat.zero_mul,List.take_zero,RowP]⟩
  ·have h:=HO.o.kept o12 (Or.inr (fun e=>by have:=hA'lt _ e;omega));refine⟨h.1,?_⟩;rcases h.2 with hn | ⟨g,cap,cur,hv,hbg,rest⟩
   ·exact .inl hn
   exact .inr ⟨g,cap,cur,hv,by omega,rest⟩
  exact HR.o.keep (fun b hb hlt=>o12.block b hlt (fun e=>by have:=zO e;have:=hb.1.2;omega)) o12.size (fun b _ hb=>.inl hb.1)
 have hcl:ts.length<=c':=own_le HO.o;obtain⟨z0,z1,z2,z3⟩:=cells4 qb2;have HAL:=zH hA'lt;clear qb1 qb2 b1 o12 HO HR hA'lt x0 x1 x2 x3;go_upto_region 2 with fail;clear hw2 f3 y3;go_wp2_with fail;go_loopw [12] (fun i wr=>∃j:Nat,j<=ts.length/\i=zI j/\∃ys,Hid (CloneI w w1 q k p n ts A' c' j ys wr)) (fun i _=>ts.length-(intOf i).toNat);case atStart=>exact⟨0,by omega,rfl,xs,L0⟩
 obtain⟨j,hj,rfl,ys,HI⟩:=hrel;by_cases hlt:j<ts.length
 ·obtain⟨g,cap,cur,hvg,hgb,hgh⟩:∃g cap cur,A'=some ⟨g,0,none⟩/\w.heap.size+2<=g/\wr.heap[g]?=some (.cells cur 46 (0,0)):=by
   rcases HI.o.own.2 with⟨_,h2⟩ | ⟨g,cap,cur,hv,hbg,hg,_⟩
   ·omega
   injection hv with e1 _ e3;exact⟨g,cap,cur,e1,hbg,hg⟩
  subst hvg;have hgl:=(HAL.o g rfl).2;have hcat:=own_cells HI.o.own;have hrow:=HI.o.row;have hxl:=hrow.len;obtain⟨v0,v1,v2,v3,hx0,hx1,hx2,hx3,htp⟩:=hrow.get j hlt;have ht0:=htp;obtain⟨k1,n1,p1,us,hnode⟩:∃k1 n1 p1 us,ts[j]=.node k1 n1 p1 us:=by cases ts[j] with | node a b c d=>exact⟨a,b,c,d,rfl⟩
  rw[hnode,TreeP] at htp;obtain⟨rfl,rfl,_,rfl,A1,c1,rfl,_⟩:=htp;have d0:=hcat _ _ hx0;have d1:=hcat _ _ hx1;have d2:=hcat _ _ hx2;have d3:=hcat _ _ hx3;simp only[Nat.zero_add] at d0 d1 d2 d3;have hszi:=Raw.sizes_mem ts ts[j] (Ze _);obtain⟨w3,hw3⟩:∃w3,wr.alloc (.cells (zT k1 n1 p1 A1 us c1) 46)=w3:=⟨_,rfl⟩;have b3:=zG hw3;have q3:=zQ hw3;have hrs:=HI.o.size;have hbox:=zL HI.o.box;have hres:=zL HI.o.res;have hgr:g<wr.heap.size:=zL hgh;have hs3:=b3.size;have h3s:=zL q3;have htv:TreeVP (fun b=>(q b/\b<w.heap.size)\/w1.heap.size<=b) w3.drew ts[j] (.agg (zT k1 n1 p1 A1 us c1)):=⟨_,_,_,_,rfl,TreeP.keep (w:=wr) (w':=w3.drew) (fun b _ hb=>b3.block b hb) b3.size (fun _ _ h=>h) _ _ _ _ _ ht0⟩;have HIH:=zH (IH.o ts[j] _ w3.drew _ (by omega) htv);have y3:=(b3.cell (p:=⟨w.heap.size,3,none⟩) hbox).trans (zC HI.o.box 3);simp at y3;obtain⟨e0,e1,e2,e3⟩:=cells4 q3;have hi0:=zP j;have hi1:(j:Int)<(ts.length:Int):=by omega
  have hi3:j*4+3<ys.length:=by omega
  have HB3:=zH b3;have HQ3:=zH q3;have HGH:=zH hgh;have HCAT:=zH hcat;have HW3:=zH hw3;have HX:=zJ hx0 hnode;clear hrow hcat hgh ht0 htv hx0 hx1 hx2 hx3 hw3 q3 b3 hnode z0 z1 z2 z3;go_upto_region 5 with fail;rw[HW3.o];go_region_held3 (fun W=>W.cell? ⟨w.heap.size,3,none⟩=some (.slice (some ⟨g,0,none⟩) ts.length c')/\W.cell? ⟨wr.heap.size,0,none⟩=some (zI k1)/\W.cell? ⟨wr.heap.size,1,none⟩=some (S n1)/\W.cell? ⟨wr.heap.size,2,none⟩=some (zI p1)/\W.cell? ⟨wr.heap.size,3,none⟩=some (.slice A1 us.length c1))
   (first | exact⟨y3,e0,e1,e2,e3⟩ | exact⟨hy5,cells4 hq5⟩ | exact⟨hy4,cells4 hq4⟩)
   (first | (go_at_call 122;refine HIH.o.mono ?_;rintro e w5⟨⟨v5,rfl,hv5⟩,b5⟩;obtain⟨k5,n5,p5,us5,A5,c5,ht5,rfl,hp5⟩:=hv5.parts4;have hy5:=(b5.cell (p:=⟨w.heap.size,3,none⟩) (Zl hbox hs3)).trans y3;have hq5:=(b5.block _ h3s).trans HQ3.o;obtain⟨s1,s2,s3,s4,a0,a1,a2,a3,h1,h2,h3,h4,⟨m0,m1,m2,m3⟩,⟨f0,f1,f2,f3⟩,hc4,ho4⟩:=put4row ((b5.block g (Zl hgr hs3)).trans ((HB3.o.block g hgr).trans HGH.o)) (fun j u hj=>(b5.cell (p:=⟨g,_,none⟩) (Zl hgr hs3)).trans ((HB3.o.cell (p:=⟨g,_,none⟩) hgr).trans (HCAT.o j u hj))) hi3 (zI k5) (S n5) (zI p5) (.slice A5 us5.length c5);have hq4:=ho4.heap hq5 (by omega);have hy4:=(ho4.cell (p:=⟨w.heap.size,3,none⟩) (Zl (Zl hbox hs3) b5.size) (by show w.heap.size≠g;omega)).trans hy5))
  all_goals
   have b35:zb w3 w5:=(zB w3.heap.size w3).drew.trans b5;have hs5:=b35.size;have HNEW:Hid (CloneI w w1 q k p n ts (some ⟨g,0,none⟩) c' (j+1) ((((ys.set (j*4) (zI k5)).set (j*4+1) (S n5)).set (j*4+2) (zI p5)).set (j*4+3) (.slice A5 us5.length c5)) s4):=by
    have k1:∀b,b<wr.heap.size->w5.heap[b]?=wr.heap[b]?:=fun b hb=>(b35.block b (by omega)).trans (HB3.o.block b hb);have hbel:zb wr w5:=HB3.o.trans (b35.mono hs3);refine zH ⟨ho4.heap ((k1 _ hbox).trans HI.o.box) (by omega),ho4.heap ((k1 _ hres).trans HI.o.res) (by omega),?_,?_,Oth.below (HI.o.bel.trans (hbel.mono (by omega))) ho4 (by omega) (by omega),by have:=ho4.size;omega,?_⟩
    ·exact own_set4 (own_below HI.o.own hbel) h1 h2 h3 h4
    ·have hr:RowP (fun b=>(q b/\b<w.heap.size)\/w1.heap.size<=b) s4 ts ys:=HI.o.row.keep (fun b hb hlt=>(ho4.block b (by omega) (fun e=>by have:=zO e;rcases hb with hb | hb <;> omega)).trans (k1 b hlt)) (by have:=ho4.size;omega) (fun _ _ h=>h);have ht:TreeP (fun b=>(q b/\b<w.heap.size)\/w1.heap.size<=b) s4 ts[j] (zI k5) (S n5) (zI p5) (.slice A5 us5.length c5):=TreeP.keep (fun b hb hlt=>ho4.block b hlt (fun e=>by
       have:=zO e;have hb:w3.heap.size<=b:=hb;omega)) ho4.size (fun b _ hb=>by
       have hb:w3.heap.size<=b:=hb;exact .inr (by omega)) _ _ _ _ _ hp5
     have:=RowP.set ht j hlt hr;rwa[List.set_getElem_self] at this
    have hr:RowP (fun b=>w1.heap.size<=b) s4 (ts.take j) (ys.take (j*4)):=HI.o.fresh.keep (fun b hb hlt=>(ho4.block b (by omega) (fun e=>by have:=zO e;omega)).trans (k1 b hlt)) (by have:=ho4.size;omega) (fun _ _ h=>h);have ht:TreeP (fun b=>w1.heap.size<=b) s4 ts[j] (zI k5) (S n5) (zI p5) (.slice A5 us5.length c5):=TreeP.keep (fun b hb hlt=>ho4.block b hlt (fun e=>by
      have:=zO e;have hb:w3.heap.size<=b:=hb;omega)) ho4.size (fun b _ hb=>by
      have hb:w3.heap.size<=b:=hb;omega) _ _ _ _ _ hp5
    rw[take_set4 _ _ _ _ _ _ hi3,Zm hlt];exact RowP.append (RowP.one ht) hr
   clear hp5 hc4 ho4 hv5;go_wp2_with fail;go_roundw;case rel=>exact⟨j+1,by omega,by go_num,_,HNEW⟩
   case measure=>simp[intOf];omega
 obtain⟨x0,x1,x2,x3⟩:=cells4 HI.o.box;obtain⟨s1,s2,s3,s4,g1,g2,g3,g4,⟨y0,y1,y2,y3⟩,⟨f0,f1,f2,f3⟩,hq',ho'⟩:=put4 HI.o.res (zI k) (S n) (zI p) (.slice A' ts.length c');have HQ':=zH hq';have HO':=zH ho';have hbox:=zL HI.o.box;have hres:=zL HI.o.res;clear hq' ho' z0 z1 z2 z3;go_wp2_with fail;refine Zb (results_raw rfl _ _ _ _ _ _ _ rfl HQ'.o) ?_;refine⟨⟨_,rfl,TreeVP.mk hnm hcl ?_⟩,Oth.below HI.o.bel HO'.o (by omega) (by omega)⟩;rcases HI.o.own.2 with⟨_,h2⟩ | ⟨g,cap,cur,hv,hbg,hg,_⟩
 ·exact fun hne=>absurd (Zz h2) hne
 injection hv with e1 _ e3;subst e1 e3;have hrs:=HI.o.size;have hfr:=HI.o.fresh;rw[show j=ts.length by omega,List.take_length,List.take_of_length_le (by have:=HI.o.row.len;omega)] at hfr;have hr:RowP (fun b=>w.heap.size<=b) s4 ts ys:=hfr.keep (fun b hb hlt=>HO'.o.block b hlt (fun e=>by have:=zO e;omega)) HO'.o.size (fun b _ hb=>by omega);have hc:CellsAt s4 g 0 ys:=fun j u hj=>(World.cell?_of_block (HO'.o.block g (zL hg) (fun e=>by have:=zO e;omega))).trans (own_cells HI.o.own j u hj);exact fun _=>⟨g,0,rfl,Zl (zL hg) HO'.o.size,by omega,hr.lie hc⟩
theorem clone_new:∀m,m≤100000000→CloneUptoN m
 |0,_=>fun t v w q h _=>by have:=t.size_pos;omega
 |m+1,h=>clone_step m (by omega) (clone_new m (by omega))
def CloneUpto(m:Nat):Prop:=∀(t:Raw)(v:Value)(w:World)(q:Nat→Prop),t.size≤m→TreeVP q w t v →
  Calls Tryz.prog 122 #[v] w fun e w'=>(∃v',e=.returned v'∧TreeVP (fun b=>q b∨w.heap.size≤b) w' t v')∧Below w.heap.size w w'
theorem clone_any(m:Nat)(h:m≤100000000):CloneUpto m:=fun t v w q hs hv=>(clone_new m h t v w q hs hv).mono fun _ _ ⟨⟨v',e,v0,v1,v2,v3,ev,hp⟩,hb⟩=>⟨⟨v',e,v0,v1,v2,v3,ev,TreeP.keep (fun _ _ _=>rfl) (zN _) (fun _ _ hb=>.inr hb) _ _ _ _ _ hp⟩,hb⟩
theorem clone_weak(q':Nat→Prop)(m:Nat)(h:m≤100000000)(t:Raw)(v:Value)(w:World)(q:Nat→Prop)(hs:t.size≤m)(hv:TreeVP q w t v) :
  Calls Tryz.prog 122 #[v] w fun e w'=>(∃v',e=.returned v'∧TreeVP (fun b=>q' b∨w.heap.size≤b) w' t v')∧Below w.heap.size w w':=(clone_new m h t v w q hs hv).mono fun _ _ ⟨⟨v',e,v0,v1,v2,v3,ev,hp⟩,hb⟩=>⟨⟨v',e,v0,v1,v2,v3,ev,TreeP.keep (fun _ _ _=>rfl) (zN _) (fun _ _ hb=>.inr hb) _ _ _ _ _ hp⟩,hb⟩
def opZ:Lfc.Op:=⟨[],0,0⟩
def opElem(v:Value):Option (DataW Unit × List MemPlace) :=
 match v with
 |.agg ⟨[.string s,.int .i64 a,.int .i64 b]⟩=>some (.agg [.lit (.string s.data.toList),.lit (.int .i64 a),.lit (.int .i64 b)],[])
 |_=>none
def opD(o:Lfc.Op):DataW Unit:=.agg [.lit (.string o.name),.lit (.int .i64 o.fix),.lit (.int .i64 o.prec)]
theorem opElem_mk(o:Lfc.Op):opElem (opV o)=some (opD o,[]):=by simp[opElem,opV,opD]
theorem opElem_inv{v:Value}{z:DataW Unit × List MemPlace}(h:opElem v=some z):∃o,v=opV o∧z=(opD o,[]):=by
 unfold opElem at h;split at h
 ·rename_i s a b;cases h;exact⟨⟨s.data.toList,a,b⟩,by simp[opV],by simp[opD]⟩
 cases h
theorem opD_inj{o o':Lfc.Op}(h:opD o=opD o'):o=o':=by
 obtain⟨n,f,p⟩:=o;obtain⟨n',f',p'⟩:=o';simp[opD] at h;obtain⟨h1,h2,h3⟩:=h;rw[h1,h2,h3]
def OpMap(w:World)(Mb N:Nat)(g:List UInt8→Option Lfc.Op):Prop:=∃D:DataW Unit,w.ownsMap Tryz.prog 9 opElem Mb N D∧∀n:List UInt8,D.atKey (.string n) (opD opZ)=opD ((g n).getD opZ)∧Maps.has D (.string n)=(g n).isSome
theorem keyOf_name2(n:List UInt8)(hn:n.length≤1000000):keyOf Tryz.prog 9 (S n)=some (.string n):=by
 simpa using keyOf_string_mk (P:=Tryz.prog) Tryz.underlying9 (s:=⟨n.toArray⟩) (by simp[ByteArray.size];unfold maxLen;omega)
theorem OpMap.look{w:World}{Mb N:Nat}{g:List UInt8→Option Lfc.Op}(h:OpMap w Mb N g)(n:List UInt8)(hn:n.length≤1000000) :
  (Instr.lookup 172 (.map (some Mb)) (S n) true).run Tryz.prog w=.ok (.tuple #[opV ((g n).getD opZ),.bool (g n).isSome]) w:=by
 obtain⟨D,hown,hD⟩:=h;obtain⟨v,ps,hrun,hv⟩:=hown.look_ok (string_keyed Tryz.underlying9) Tryz.underlying172 (z:=opV opZ) (by kernel_rfl) (opElem_mk opZ) (keyOf_name2 n hn);rw[(hD n).1] at hv;obtain⟨o,rfl,hz⟩:=opElem_inv hv;simp only[Prod.mk.injEq] at hz;rw[(hD n).2,←opD_inj hz.1] at hrun;exact hrun
theorem OpMap.made(w:World):OpMap (w.alloc (.map #[] 0)) w.heap.size 0 (fun _=>none) :=
 ⟨.map [],World.ownsMap_made _ _ _ _,fun n=>⟨rfl,rfl⟩⟩
theorem OpMap.kept{w w':World}{Mb N:Nat}{g:List UInt8→Option Lfc.Op}{row:Option Nat}(h:OpMap w Mb N g)(hg:w.grownBy w' row)(hne:some Mb≠row):OpMap w' Mb N g:=by
 obtain⟨D,hown,hD⟩:=h;exact⟨D,hown.kept hg hne,hD⟩
theorem OpMap.lt{w:World}{Mb N:Nat}{g:List UInt8→Option Lfc.Op}(h:OpMap w Mb N g):Mb<w.heap.size:=by
 obtain⟨D,hown,_⟩:=h;exact hown.lt
theorem OpMap.put{w:World}{Mb N:Nat}{g:List UInt8→Option Lfc.Op}(h:OpMap w Mb N g)(hN:N≤1000000000)(n:List UInt8)(hn:n.length≤1000000)(o:Lfc.Op) :
  ∃w',(Instr.mapUpdate 172 (.map (some Mb)) (S n) (opV o)).run Tryz.prog w=.ok () w'∧OpMap w' Mb (N+1) (fun x=>if x=n then some o else g x)∧Oth Mb w w':=by
 obtain⟨D,hown,hD⟩:=h;obtain⟨w',hrun,hown',hturn⟩:=hown.store (string_keyed Tryz.underlying9) Tryz.underlying172 (by unfold maxLen;omega) (keyOf_name2 n hn) (opElem_mk o);refine⟨w',hrun,⟨_,hown',fun x=>?_⟩,hturn.grown⟩;by_cases e:x=n
 ·subst e;rw[atKey_put_same hown.isMap (by simp[WideAt.IsKeyLit]),has_put_same hown.isMap (by simp[WideAt.IsKeyLit])];simp
 rw[atKey_put_other (by simpa using e),has_put_other (by simpa using e)];simp only[if_neg e];exact hD x
theorem OpMap.congr{w:World}{Mb N:Nat}{g g':List UInt8→Option Lfc.Op}(h:OpMap w Mb N g)(e:∀n,g n=g' n):OpMap w Mb N g':=by
 obtain rfl:g=g':=funext e;exact h
theorem look_succ(l:List Lfc.Op)(j:Nat)(h:j<l.length)(n:List UInt8):Lfc.look (l.take (j+1)) n=if Lfc.look (l.take j) l[j].name=none∧n=l[j].name then some l[j] else Lfc.look (l.take j) n:=by
 by_cases h1:n=arrR
 ·have e:∀L,Lfc.look L n=some ⟨[],5,-1⟩:=fun L=>by unfold Lfc.look;rw[if_pos h1]
  rw[e,e,if_neg];rintro⟨ha,hb⟩;rw[←hb,e] at ha;cases ha
 by_cases h2:n=arrL
 ·have e:∀L,Lfc.look L n=some ⟨[],4,-1⟩:=fun L=>by unfold Lfc.look;rw[if_neg h1,if_pos h2]
  rw[e,e,if_neg];rintro⟨ha,hb⟩;rw[←hb,e] at ha;cases ha
 have e:∀L,Lfc.look L n=L.find? (fun o=>decide (o.name=n)):=fun L=>by unfold Lfc.look;rw[if_neg h1,if_neg h2]
 rw[e,Zm h,List.find?_append];by_cases h3:n=l[j].name
 ·rw[←h3,e];cases hf:(l.take j).find? (fun o=>decide (o.name=n)) with
  |none=>simp[h3]
  |some o=>simp
 rw[if_neg (fun hc=>h3 hc.2),e];have:[l[j]].find? (fun o=>decide (o.name=n))=none:=by simp[Ne.symm h3]
 rw[this];simp
structure EnvR(w0:World)(Rb Mb:Nat)(l:List Lfc.Op)(w:World):Prop where
 rge:w0.heap.size≤Rb
 ne:Mb≠Rb
 bel:Below w0.heap.size w0 w
 cells:∃bad:Int,w.heap[Rb]?=some (.cells #[.map (some Mb),.int .i64 bad] 174 (0,0))
 map:∃N,OpMap w Mb N (Lfc.look l)
theorem EnvR.new{w0 w w':World}{Rb Mb:Nat}{l:List Lfc.Op}(h:EnvR w0 Rb Mb l w)(hb:Below w.heap.size w w'):EnvR w0 Rb Mb l w':=by
 obtain⟨bad,hc⟩:=h.cells;obtain⟨N,hm⟩:=h.map;exact⟨h.rge,h.ne,h.bel.trans (hb.mono h.bel.size),⟨bad,(hb.block _ (zL hc)).trans hc⟩,⟨N,hm.kept (zE (T:=Rb) hb) (fun e=>h.ne (zO e))⟩⟩
theorem EnvR.oth{w0 w w':World}{Rb Mb:Nat}{l:List Lfc.Op}(h:EnvR w0 Rb Mb l w)(ho:Oth Rb w w'){bad:Int}(hc:w'.heap[Rb]?=some (.cells #[.map (some Mb),.int .i64 bad] 174 (0,0))):EnvR w0 Rb Mb l w':=by
 obtain⟨N,hm⟩:=h.map;exact⟨h.rge,h.ne,Oth.below h.bel ho h.rge h.bel.size,⟨bad,hc⟩,⟨N,hm.kept ho (fun e=>h.ne (zO e))⟩⟩
theorem EnvR.lt{w0 w:World}{Rb Mb:Nat}{l:List Lfc.Op}(h:EnvR w0 Rb Mb l w):Rb<w.heap.size:=by
 obtain⟨bad,hc⟩:=h.cells;exact zL hc
theorem EnvR.m0{w0 w:World}{Rb Mb:Nat}{l:List Lfc.Op}(h:EnvR w0 Rb Mb l w):w.cell? ⟨Rb,0,none⟩=some (.map (some Mb)):=by
 obtain⟨bad,hc⟩:=h.cells;exact zC hc 0
theorem op_size:(Tryz.prog.info? 34).map (·.size)=some 3:=by kernel_rfl
theorem results_raw2{fn:Func}{p u:Tmp}(h:fn.results=#[.cell p 46,.tmp u])(tmps:Array Value)(w:World)(g:Nat)(v0 v1 v2 v3:Value)(hp:tmps.getD p undef=.pointer (some ⟨g,0,none⟩))(hg:w.heap[g]?=some (.cells #[v0,v1,v2,v3] 46 (0,0))) :
  (results fn tmps).run Tryz.prog w=.ok (.tuple #[.agg #[v0,v1,v2,v3],tmps.getD u undef]) w:=by
 rw[results_cell_tmp h,hp];simp[asAddr,run_loadVar_row w g _ _ _ _ _ hg Tryz.underlying46 rfl raw_size,Result.andThen]
theorem results_op2{fn:Func}{p u:Tmp}(h:fn.results=#[.cell p 34,.tmp u])(tmps:Array Value)(w:World)(g:Nat)(v0 v1 v2:Value)(hp:tmps.getD p undef=.pointer (some ⟨g,0,none⟩))(hg:w.heap[g]?=some (.cells #[v0,v1,v2] 34 (0,0))) :
  (results fn tmps).run Tryz.prog w=.ok (.tuple #[.agg #[v0,v1,v2],tmps.getD u undef]) w:=by
 rw[results_cell_tmp h,hp];simp[asAddr,run_loadVar_row w g _ _ _ _ _ hg Tryz.underlying34 rfl op_size,Result.andThen]
theorem results_op3{fn:Func}{t p u:Tmp}(h:fn.results=#[.tmp t,.cell p 34,.tmp u])(tmps:Array Value)(w:World)(g:Nat)(v0 v1 v2:Value)(hp:tmps.getD p undef=.pointer (some ⟨g,0,none⟩))(hg:w.heap[g]?=some (.cells #[v0,v1,v2] 34 (0,0))) :
  (results fn tmps).run Tryz.prog w=.ok (.tuple #[tmps.getD t undef,.agg #[v0,v1,v2],tmps.getD u undef]) w:=by
 have hp':tmps[p]?.getD undef=.pointer (some ⟨g,0,none⟩):=by simpa using hp
 simp[results,h,hp',asAddr,run_loadVar_row w g _ _ _ _ _ hg Tryz.underlying34 rfl op_size]
theorem put3{W:World}{R:Nat}{a0 a1 a2:Value}{t:TypeId}(h:W.heap[R]?=some (.cells #[a0,a1,a2] t (0,0)))(v0 v1 v2:Value):∃s1 s2 s3,W.setCell ⟨R,0,none⟩ v0=s1∧s1.setCell ⟨R,1,none⟩ v1=s2∧s2.setCell ⟨R,2,none⟩ v2=s3 ∧
  (W.cell? ⟨R,0,none⟩=some a0∧s1.cell? ⟨R,1,none⟩=some a1∧s2.cell? ⟨R,2,none⟩=some a2) ∧
  (W.frozen? ⟨R,0,none⟩=false∧s1.frozen? ⟨R,1,none⟩=false∧s2.frozen? ⟨R,2,none⟩=false) ∧
  s3.heap[R]?=some (.cells #[v0,v1,v2] t (0,0))∧Oth R W s3:=by
 obtain⟨s1,h1⟩:∃s1,W.setCell ⟨R,0,none⟩ v0=s1:=⟨_,rfl⟩;obtain⟨s2,h2⟩:∃s2,s1.setCell ⟨R,1,none⟩ v1=s2:=⟨_,rfl⟩;obtain⟨s3,h3⟩:∃s3,s2.setCell ⟨R,2,none⟩ v2=s3:=⟨_,rfl⟩;have q1:s1.heap[R]?=some (.cells #[v0,a1,a2] t (0,0)):=zU h h1;have q2:s2.heap[R]?=some (.cells #[v0,v1,a2] t (0,0)):=zU q1 h2;have q3:s3.heap[R]?=some (.cells #[v0,v1,v2] t (0,0)):=zU q2 h3;refine⟨s1,s2,s3,h1,h2,h3,⟨zC h 0,zC q1 1,zC q2 2⟩,⟨zF h 0,zF q1 1,zF q2 2⟩,q3,?_⟩;rw[←h3,←h2,←h1];exact((Oth.set W v0).trans (Oth.set _ v1)).trans (Oth.set _ v2)
theorem cells3{W:World}{g:Nat}{v0 v1 v2:Value}{t:TypeId}(h:W.heap[g]?=some (.cells #[v0,v1,v2] t (0,0))):W.cell? ⟨g,0,none⟩=some v0∧W.cell? ⟨g,1,none⟩=some v1∧W.cell? ⟨g,2,none⟩=some v2 :=
 ⟨zC h 0,zC h 1,zC h 2⟩
theorem fail_any(w0:World)(Rb Mb:Nat)(l:List Lfc.Op)(e:Int)(w:World)(h:EnvR w0 Rb Mb l w) :
  Calls Tryz.prog 167 #[.pointer (some ⟨Rb,0,none⟩),zI e] w fun x w'=>x=.returned (.tuple #[.agg #[zI 0,S [],zI 0,zS],.bool false])/\w'.heap[Rb]?=some (.cells #[.map (some Mb),zI e] 174 (0,0))/\Oth Rb w w':=by
 obtain⟨bad,hc⟩:=h.cells;obtain⟨wa,hwa⟩:∃wa,w.alloc (.cells #[zI 0,S [],zI 0,zS] 46)=wa:=⟨_,rfl⟩;have ba:=zG hwa;have qa:=zQ hwa;have hlt:=zL hc;have hca:=(ba.block _ hlt).trans hc;have f1:=zF hca 1;have x1:=zC hca 1;simp at x1;obtain⟨wb,hwb⟩:∃wb,wa.setCell ⟨Rb,1,none⟩ (zI e)=wb:=⟨_,rfl⟩;have qb:zk wb Rb #[.map (some Mb),zI e] 174:=zU hca hwb;have ob:Oth Rb wa wb:=zV hwb;obtain⟨s1,s2,s3,s4,g1,g2,g3,g4,⟨y0,y1,y2,y3⟩,⟨f0',f1',f2',f3'⟩,hq,ho⟩:=put4 (ob.heap qa (by omega)) (zI 0) (S []) (zI 0) zS;have HQ:=zH hq;have HO:=zH ho;have QB:=zH qb;have OB:=zH ob;have BA:=zH ba;clear hq ho qb ob ba qa hca hc h;go_enter Tryz.func167,Tryz.ntmps167;go_upto_region 1 with fail;clear hwa;go_wp2_with fail;refine Zb (results_raw2 rfl _ _ _ _ _ _ _ rfl HQ.o) ?_;refine⟨rfl,HO.o.heap QB.o (by omega),((zE BA.o).trans OB.o).of_new ?_⟩;have hs:=OB.o.size;have hs2:=BA.o.size;exact⟨HO.o.os,HO.o.tape,HO.o.output,HO.o.size,fun k hk=>HO.o.block k (by omega) (fun e=>by have:=zO e;omega)⟩
theorem enters_res1:∀args w,(callFunc 118 args).run Tryz.prog w=.ok (.enter 118 args) w:=enters_of Tryz.func118 (by kernel_rfl) rfl
theorem enters_res2:∀args w,(callFunc 120 args).run Tryz.prog w=.ok (.enter 120 args) w:=enters_of Tryz.func120 (by kernel_rfl) rfl
theorem enters_add1:∀args w,(callFunc 108 args).run Tryz.prog w=.ok (.enter 108 args) w:=enters_of Tryz.func108 (by kernel_rfl) rfl
theorem res1_any(o:Lfc.Op)(w:World)(hn:o.name.length<=1000000):Calls Tryz.prog 118 #[opV o] w fun e w'=>e=.returned (.bool (decide (o.bad≠0)))/\zb w w':=by
 have C1:=zH (fun W=>check_any o W hn);have b1:zb w (w.alloc (.cells #[S o.name,zI o.fix,zI o.prec] 34)):=(zB _ _).alloc (zN _) _;unfold opV at C1 ⊢;generalize o.bad=z at *;by_cases hz:z=0
 ·subst hz;go_enter Tryz.func118,Tryz.ntmps118;go_wp2_with fail;refine(C1.o _).mono ?_;rintro e w2⟨rfl,b2⟩;go_wp2_with fail;go_ret;exact⟨rfl,b1.trans (b2.mono b1.size)⟩
 have hz2:(z != 0)=true:=by simpa using hz
 have HZ:=zH hz;clear hz;go_enter Tryz.func118,Tryz.ntmps118;go_wp2_with fail;refine(C1.o _).mono ?_;rintro e w2⟨rfl,b2⟩;go_wp2_with fail;go_ret;exact⟨by rw[Zt HZ.o];rfl,b1.trans (b2.mono b1.size)⟩
theorem add1_any(o:Lfc.Op)(w:World)(B:Nat)(n:List UInt8)(hB:w.cell? ⟨B,0,none⟩=some (S n)):Calls Tryz.prog 108 #[opV o,.pointer (some ⟨B,0,none⟩)] w fun e w'=>e=.returned (.bool (decide (o.name=n)))/\zb w w':=by
 obtain⟨on,of,op⟩:=o;unfold opV;simp only;have hBl:B<w.heap.size:=by
  rcases Nat.lt_or_ge B w.heap.size with h1 | h1
  ·exact h1
  unfold World.cell? at hB;simp only at hB;rw[Array.getElem?_eq_none h1] at hB;cases hB
 obtain⟨w1,hw1⟩:∃w1,w.alloc (.cells #[S on,zI of,zI op] 34)=w1:=⟨_,rfl⟩;have b1:=zG hw1;have q1:=zQ hw1;have x0:=(cells3 q1).1;have y0:=(b1.cell (p:=⟨B,0,none⟩) hBl).trans hB;clear q1 hB;by_cases hn:on=n
 ·have hn2:(on == n)=true:=by simp[hn]
  have HN:=zH hn;subst hn;go_enter Tryz.func108,Tryz.ntmps108;go_upto_region 1 with fail;clear hw1;go_wp2_with fail;go_ret;exact⟨by simp,b1⟩
 have hn2:(on == n)=false:=by simpa using hn
 have HN:=zH hn;clear hn;go_enter Tryz.func108,Tryz.ntmps108;go_upto_region 1 with fail;clear hw1;go_wp2_with fail;go_ret;exact⟨by rw[Zu HN.o];rfl,b1⟩
theorem res2_any(x:Opd)(v:Value)(w:World)(B:Nat)(z:Int)(hx:x.tree.size<=100000000)(hv:OpdV w x v)(hB:w.cell? ⟨B,0,none⟩=some (zI z)):Calls Tryz.prog 120 #[v,.pointer (some ⟨B,0,none⟩)] w fun e w'=>e=.returned (.bool (!x.arrow && decide (x.tree.wf=z)))/\zb w w':=by
 have hBl:B<w.heap.size:=by
  rcases Nat.lt_or_ge B w.heap.size with h1 | h1
  ·exact h1
  unfold World.cell? at hB;simp only at hB;rw[Array.getElem?_eq_none h1] at hB;cases hB
 obtain⟨⟨k,n,p,ts⟩,cl⟩:=x;obtain⟨k',n',p',ts',A,c,e,rfl,hT⟩:=hv;cases e;simp only at hx ⊢;have hlen:=Raw.sizes_len ts;have hsz:ts.length<=1000000000:=by simp only[Raw.size] at hx;omega
 obtain⟨w1,hw1⟩:∃w1,w.alloc (.cells #[zI k,S n,zI p,.slice A ts.length c,.bool cl] 129)=w1:=⟨_,rfl⟩;have b1:=zG hw1;have q1:=zQ hw1;have y0:=(b1.cell (p:=⟨B,0,none⟩) hBl).trans hB;have hw1s:=zL q1;have SC:Hid (∀W,zb w1 W->(zc W w.heap.size 0 (zI k)/\zc W w.heap.size 1 (S n)/\zc W w.heap.size 2 (zI p)/\zc W w.heap.size 3 (.slice A ts.length c)/\zc W w.heap.size 4 (.bool cl))/\zc W B 0 (zI z)):=zH (fun W hb=>by
  have e:=(hb.block _ hw1s).trans q1;exact⟨⟨zC e 0,zC e 1,zC e 2,zC e 3,zC e 4⟩,(hb.cell (p:=⟨B,0,none⟩) (by simp only;omega)).trans y0⟩)
 have CA:=zH (fun W (hb:zb w1 W)=>arrow_any ⟨.node k n p ts,cl⟩ _ W hsz ⟨k,n,p,ts,A,c,rfl,rfl,hT.below (b1.trans (hb.mono b1.size))⟩);have CW:=zH (fun W (hb:zb w1 W)=>wf_any (.node k n p ts) _ W (by omega) (hT.below (b1.trans (hb.mono b1.size))));have G0:zb w1 w1.drew:=(zB _ _).drew;have aa:∀W W',zb w1 W->zb W W'->zb w1 W':=fun W W' h h'=>h.trans (h'.mono h.size);generalize hf:(Raw.node k n p ts).wf=f at *;generalize ha:Opd.arrow ⟨.node k n p ts,cl⟩=a at *;clear hf ha hT q1 y0 hB hx hlen;have main:∀q:Bool,q=decide (f=z)->Calls Tryz.prog 120 #[.agg #[zI k,S n,zI p,.slice A ts.length c,.bool cl],.pointer (some ⟨B,0,none⟩)] w fun e w'=>e=.returned (.bool (!a && q))/\zb w w':=fun q hq=>by
  have hfz:(f == z)=q:=by rw[hq];by_cases h:f=z <;> simp[h]
  clear hq;cases q <;> cases a
  ·go_enter Tryz.func120,Tryz.ntmps120;go_upto_region 1 with fail;clear hw1;go_region_held3 (fun W=>(W.cell? ⟨w.heap.size,0,none⟩=some (zI k)/\W.cell? ⟨w.heap.size,1,none⟩=some (S n)/\W.cell? ⟨w.heap.size,2,none⟩=some (zI p)/\W.cell? ⟨w.heap.size,3,none⟩=some (.slice A ts.length c)/\W.cell? ⟨w.heap.size,4,none⟩=some (.bool cl))/\W.cell? ⟨B,0,none⟩=some (zI z))
    (first | exact SC.o _ G0 | (refine SC.o _ ?_;assumption))
    (first
     |(go_at_call 121;((with_reducible refine(CA.o _ ?_).mono ?_));assumption;rintro e w5⟨rfl,hb5'⟩;have hb5:=aa _ _ (by assumption) hb5')
     |(go_at_call 48;((with_reducible refine(CW.o _ ?_).mono ?_));assumption;rintro e w6⟨rfl,hb6'⟩;have hb6:=aa _ _ (by assumption) hb6'))
   all_goals
    go_wp2_with fail;go_ret;exact⟨rfl,b1.trans (hb6.mono b1.size)⟩
  ·go_enter Tryz.func120,Tryz.ntmps120;go_upto_region 1 with fail;clear hw1;obtain⟨⟨x0,x1,x2,x3,x4⟩,_⟩:=SC.o w1 (zB _ _);first | (go_region_law (go_simp;go_at_call 121;refine(CA.o _ G0).mono ?_;rintro e w5⟨rfl,hb5'⟩;have hb5:=aa _ _ G0 hb5')) | fail
   all_goals
    go_wp2_with fail;go_ret;exact⟨rfl,b1.trans (hb5.mono b1.size)⟩
  ·go_enter Tryz.func120,Tryz.ntmps120;go_upto_region 1 with fail;clear hw1;go_region_held3 (fun W=>(W.cell? ⟨w.heap.size,0,none⟩=some (zI k)/\W.cell? ⟨w.heap.size,1,none⟩=some (S n)/\W.cell? ⟨w.heap.size,2,none⟩=some (zI p)/\W.cell? ⟨w.heap.size,3,none⟩=some (.slice A ts.length c)/\W.cell? ⟨w.heap.size,4,none⟩=some (.bool cl))/\W.cell? ⟨B,0,none⟩=some (zI z))
    (first | exact SC.o _ G0 | (refine SC.o _ ?_;assumption))
    (first
     |(go_at_call 121;((with_reducible refine(CA.o _ ?_).mono ?_));assumption;rintro e w5⟨rfl,hb5'⟩;have hb5:=aa _ _ (by assumption) hb5')
     |(go_at_call 48;((with_reducible refine(CW.o _ ?_).mono ?_));assumption;rintro e w6⟨rfl,hb6'⟩;have hb6:=aa _ _ (by assumption) hb6'))
   all_goals
    go_wp2_with fail;go_ret;exact⟨rfl,b1.trans (hb6.mono b1.size)⟩
  go_enter Tryz.func120,Tryz.ntmps120;go_upto_region 1 with fail;clear hw1;obtain⟨⟨x0,x1,x2,x3,x4⟩,_⟩:=SC.o w1 (zB _ _);first | (go_region_law (go_simp;go_at_call 121;refine(CA.o _ G0).mono ?_;rintro e w5⟨rfl,hb5'⟩;have hb5:=aa _ _ G0 hb5')) | fail
  all_goals
   go_wp2_with fail;go_ret;exact⟨rfl,b1.trans (hb5.mono b1.size)⟩
 exact main _ rfl
theorem index_res1(l:List Lfc.Op)(A:Option Addr)(c:Nat)(w:World)(hl:l.length<=1000000000)(hA:OpsAt w A l)  :
  Calls Tryz.prog 159 #[.slice A l.length c,.func (.func 118) #[] #[]] w fun e w'=>∃i:Int,e=.returned (zI i)/\decide (i≥0)=l.any (fun x=>decide (x.bad≠0))/\zb w w':=by
 have he:=enters_res1;have HA:=zH hA;have HANY:Hid (l.any (fun x=>decide (x.bad≠0))=l.any (fun x=>decide (x.bad≠0))):=zH rfl;obtain⟨P,hP⟩:∃P:Lfc.Op->Bool,P=fun x=>decide (x.bad≠0):=⟨_,rfl⟩;rw[<-hP];have HP:=zH hP;clear hP hA HANY;go_enter Tryz.func159,Tryz.ntmps159;go_wp2_with fail;go_loopw [8] (fun i wr=>∃k:Nat,k<=l.length/\i=zI k/\zb w wr/\Hid ((l.take k).any P=false)) (fun i _=>l.length-(intOf i).toNat);case atStart=>exact⟨0,by omega,rfl,zB _ _,zH (by simp)⟩
 obtain⟨k,hk,rfl,hbw,HQ⟩:=hrel;by_cases hlt:k<l.length
 ·have HN:Hid ((l.take (k+1)).any P=P l[k]):=zH (by rw[Zm hlt,List.any_append,HQ.o];simp);obtain⟨b,o,rfl,hb,hcs⟩:=HA.o.2 (by intro e;rw[e] at hlt;simp at hlt);obtain⟨d0,d1,d2⟩:=hcs k hlt;have e0:=(hbw.cell (p:=⟨b,_,none⟩) hb).trans d0;have e1:=(hbw.cell (p:=⟨b,_,none⟩) hb).trans d1;have e2:=(hbw.cell (p:=⟨b,_,none⟩) hb).trans d2;clear hcs d0 d1 d2;have CC:=zH (res1_any l[k] wr (HA.o.1 _ (Ze _)));unfold opV at CC;have HPX:Hid (P l[k]=(fun x=>decide (x.bad≠0)) l[k]):=zH (by rw[HP.o]);have hi0:=zP k;have hi1:(k:Int)<(l.length:Int):=by omega
  have HM:Hid (P l[k]=true->l.any P=true):=zH (fun h=>List.any_eq_true.2 ⟨l[k],Ze _,h⟩);simp only at HPX;rw[<-HPX.o] at CC;generalize hq:P l[k]=q at *;clear hq HPX;cases q
  ·go_wp2_with fail;refine CC.o.mono ?_;rintro e w1⟨rfl,hb1⟩;go_wp2_with fail;go_roundw;case rel=>exact⟨k+1,by omega,by go_num,hbw.trans (hb1.mono hbw.size),HN⟩
   case measure=>simp[intOf];omega
  have hany:=HM.o rfl;go_wp2_with fail;refine CC.o.mono ?_;rintro e w1⟨rfl,hb1⟩;go_wp2_with fail;go_ret;exact⟨k,rfl,by rw[hany];simp,hbw.trans (hb1.mono hbw.size)⟩
 have hany:l.any P=false:=by have:=HQ.o;rwa[List.take_of_length_le (by omega)] at this
 have HANY:=zH hany;clear hany;go_wp2_with fail;go_ret;exact⟨-1,rfl,by rw[HANY.o];decide,hbw⟩
theorem contains_res1(l:List Lfc.Op)(A:Option Addr)(c:Nat)(w:World)(hl:l.length<=1000000000)(hA:OpsAt w A l)  :
  Calls Tryz.prog 107 #[.slice A l.length c,.func (.func 118) #[] #[]] w fun e w'=>e=.returned (.bool (l.any (fun x=>decide (x.bad≠0))))/\zb w w':=by
 have IH:=zH (index_res1 l A c w  hl hA );clear hA;generalize l.any (fun x=>decide (x.bad≠0))=q at *;go_enter Tryz.func107,Tryz.ntmps107;go_wp2_with fail;refine IH.o.mono ?_;rintro e w1⟨i,rfl,hi,hb1⟩;have HI:=zH hi;clear hi;go_wp2_with fail;go_ret;exact⟨ret_bool HI.o,hb1⟩
theorem index_add1(l:List Lfc.Op)(A:Option Addr)(c:Nat)(w:World)(B:Nat)(nm:List UInt8)(hl:l.length<=1000000000)(hA:OpsAt w A l)(hB:zc w B 0 (S nm))(hBl:B<w.heap.size) :
  Calls Tryz.prog 159 #[.slice A l.length c,.func (.func 108) #[] #[.pointer (some ⟨B,0,none⟩)]] w fun e w'=>∃i:Int,e=.returned (zI i)/\decide (i≥0)=l.any (fun x=>decide (x.name=nm))/\zb w w':=by
 have he:=enters_add1;have HA:=zH hA;have HB:=zH hB;clear hB;have HANY:Hid (l.any (fun x=>decide (x.name=nm))=l.any (fun x=>decide (x.name=nm))):=zH rfl;obtain⟨P,hP⟩:∃P:Lfc.Op->Bool,P=fun x=>decide (x.name=nm):=⟨_,rfl⟩;rw[<-hP];have HP:=zH hP;clear hP hA HANY;go_enter Tryz.func159,Tryz.ntmps159;go_wp2_with fail;go_loopw [8] (fun i wr=>∃k:Nat,k<=l.length/\i=zI k/\zb w wr/\Hid ((l.take k).any P=false)) (fun i _=>l.length-(intOf i).toNat);case atStart=>exact⟨0,by omega,rfl,zB _ _,zH (by simp)⟩
 obtain⟨k,hk,rfl,hbw,HQ⟩:=hrel;by_cases hlt:k<l.length
 ·have HN:Hid ((l.take (k+1)).any P=P l[k]):=zH (by rw[Zm hlt,List.any_append,HQ.o];simp);obtain⟨b,o,rfl,hb,hcs⟩:=HA.o.2 (by intro e;rw[e] at hlt;simp at hlt);obtain⟨d0,d1,d2⟩:=hcs k hlt;have e0:=(hbw.cell (p:=⟨b,_,none⟩) hb).trans d0;have e1:=(hbw.cell (p:=⟨b,_,none⟩) hb).trans d1;have e2:=(hbw.cell (p:=⟨b,_,none⟩) hb).trans d2;clear hcs d0 d1 d2;have CC:=zH (add1_any l[k] wr B nm ((hbw.cell (p:=⟨B,0,none⟩) hBl).trans HB.o));unfold opV at CC;have HPX:Hid (P l[k]=(fun x=>decide (x.name=nm)) l[k]):=zH (by rw[HP.o]);have hi0:=zP k;have hi1:(k:Int)<(l.length:Int):=by omega
  have HM:Hid (P l[k]=true->l.any P=true):=zH (fun h=>List.any_eq_true.2 ⟨l[k],Ze _,h⟩);simp only at HPX;rw[<-HPX.o] at CC;generalize hq:P l[k]=q at *;clear hq HPX;cases q
  ·go_wp2_with fail;refine CC.o.mono ?_;rintro e w1⟨rfl,hb1⟩;go_wp2_with fail;go_roundw;case rel=>exact⟨k+1,by omega,by go_num,hbw.trans (hb1.mono hbw.size),HN⟩
   case measure=>simp[intOf];omega
  have hany:=HM.o rfl;go_wp2_with fail;refine CC.o.mono ?_;rintro e w1⟨rfl,hb1⟩;go_wp2_with fail;go_ret;exact⟨k,rfl,by rw[hany];simp,hbw.trans (hb1.mono hbw.size)⟩
 have hany:l.any P=false:=by have:=HQ.o;rwa[List.take_of_length_le (by omega)] at this
 have HANY:=zH hany;clear hany;go_wp2_with fail;go_ret;exact⟨-1,rfl,by rw[HANY.o];decide,hbw⟩
theorem contains_add1(l:List Lfc.Op)(A:Option Addr)(c:Nat)(w:World)(B:Nat)(nm:List UInt8)(hl:l.length<=1000000000)(hA:OpsAt w A l)(hB:zc w B 0 (S nm))(hBl:B<w.heap.size) :
  Calls Tryz.prog 107 #[.slice A l.length c,.func (.func 108) #[] #[.pointer (some ⟨B,0,none⟩)]] w fun e w'=>e=.returned (.bool (l.any (fun x=>decide (x.name=nm))))/\zb w w':=by
 have IH:=zH (index_add1 l A c w B nm hl hA hB hBl);clear hA;generalize l.any (fun x=>decide (x.name=nm))=q at *;go_enter Tryz.func107,Tryz.ntmps107;go_wp2_with fail;refine IH.o.mono ?_;rintro e w1⟨i,rfl,hi,hb1⟩;have HI:=zH hi;clear hi;go_wp2_with fail;go_ret;exact⟨ret_bool HI.o,hb1⟩
theorem index_res2(l:List Opd)(A:Option Addr)(c:Nat)(w:World)(B:Nat)(z:Int)(hl:l.length<=1000000000)(hA:OpdsAt w A l)(hB:zc w B 0 (zI z))(hBl:B<w.heap.size)(hsm:∀x∈l,x.tree.size<=100000000) :
  Calls Tryz.prog 166 #[.slice A l.length c,.func (.func 120) #[] #[.pointer (some ⟨B,0,none⟩)]] w fun e w'=>∃i:Int,e=.returned (zI i)/\decide (i≥0)=l.any (fun x=>!x.arrow && decide (x.tree.wf=z))/\zb w w':=by
 have he:=enters_res2;have HA:=zH hA;have HB:=zH hB;have HSM:=zH hsm;clear hB hsm;have HANY:Hid (l.any (fun x=>!x.arrow && decide (x.tree.wf=z))=l.any (fun x=>!x.arrow && decide (x.tree.wf=z))):=zH rfl;obtain⟨P,hP⟩:∃P:Opd->Bool,P=fun x=>!x.arrow && decide (x.tree.wf=z):=⟨_,rfl⟩;rw[<-hP];have HP:=zH hP;clear hP hA HANY;go_enter Tryz.func166,Tryz.ntmps166;go_wp2_with fail;go_loopw [8] (fun i wr=>∃k:Nat,k<=l.length/\i=zI k/\zb w wr/\Hid ((l.take k).any P=false)) (fun i _=>l.length-(intOf i).toNat);case atStart=>exact⟨0,by omega,rfl,zB _ _,zH (by simp)⟩
 obtain⟨k,hk,rfl,hbw,HQ⟩:=hrel;by_cases hlt:k<l.length
 ·have HN:Hid ((l.take (k+1)).any P=P l[k]):=zH (by rw[Zm hlt,List.any_append,HQ.o];simp);obtain⟨b,o,kk,nn,pp,tt,BB,cc,rfl,hb,hnd,e0,e1,e2,e3,e4,hTT⟩:=(HA.o.below hbw).at_ hlt;have CC:=zH (res2_any l[k] _ wr B z (HSM.o _ (Ze _)) ⟨kk,nn,pp,tt,BB,cc,hnd,rfl,hTT⟩ ((hbw.cell (p:=⟨B,0,none⟩) hBl).trans HB.o));have HPX:Hid (P l[k]=(fun x=>!x.arrow && decide (x.tree.wf=z)) l[k]):=zH (by rw[HP.o]);have hi0:=zP k;have hi1:(k:Int)<(l.length:Int):=by omega
  have HM:Hid (P l[k]=true->l.any P=true):=zH (fun h=>List.any_eq_true.2 ⟨l[k],Ze _,h⟩);simp only at HPX;rw[<-HPX.o] at CC;generalize hq:P l[k]=q at *;clear hq HPX;cases q
  ·go_wp2_with fail;refine CC.o.mono ?_;rintro e w1⟨rfl,hb1⟩;go_wp2_with fail;go_roundw;case rel=>exact⟨k+1,by omega,by go_num,hbw.trans (hb1.mono hbw.size),HN⟩
   case measure=>simp[intOf];omega
  have hany:=HM.o rfl;go_wp2_with fail;refine CC.o.mono ?_;rintro e w1⟨rfl,hb1⟩;go_wp2_with fail;go_ret;exact⟨k,rfl,by rw[hany];simp,hbw.trans (hb1.mono hbw.size)⟩
 have hany:l.any P=false:=by have:=HQ.o;rwa[List.take_of_length_le (by omega)] at this
 have HANY:=zH hany;clear hany;go_wp2_with fail;go_ret;exact⟨-1,rfl,by rw[HANY.o];decide,hbw⟩
theorem contains_res2(l:List Opd)(A:Option Addr)(c:Nat)(w:World)(B:Nat)(z:Int)(hl:l.length<=1000000000)(hA:OpdsAt w A l)(hB:zc w B 0 (zI z))(hBl:B<w.heap.size)(hsm:∀x∈l,x.tree.size<=100000000) :
  Calls Tryz.prog 119 #[.slice A l.length c,.func (.func 120) #[] #[.pointer (some ⟨B,0,none⟩)]] w fun e w'=>e=.returned (.bool (l.any (fun x=>!x.arrow && decide (x.tree.wf=z))))/\zb w w':=by
 have IH:=zH (index_res2 l A c w B z hl hA hB hBl hsm);clear hA;generalize l.any (fun x=>!x.arrow && decide (x.tree.wf=z))=q at *;go_enter Tryz.func119,Tryz.ntmps119;go_wp2_with fail;refine IH.o.mono ?_;rintro e w1⟨i,rfl,hi,hb1⟩;have HI:=zH hi;clear hi;go_wp2_with fail;go_ret;exact⟨ret_bool HI.o,hb1⟩
end
end Go.Proofs.YthajalgkjonaaaaGreatDoor
