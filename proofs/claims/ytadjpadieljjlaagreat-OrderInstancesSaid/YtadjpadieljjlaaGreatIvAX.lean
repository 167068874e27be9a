/- Parts of the proof that no input makes the law false: OiR, OiA, OiM. -/
import Derived.Test.YtadjpadieljjlaaGreatIvAW
set_option linter.unusedVariables false
set_option linter.unusedSimpArgs false
set_option maxRecDepth 100000
set_option maxHeartbeats 32000000
namespace Go.Proofs.YtadjpadieljjlaaGreat
open Go.RowKit Go.Maps
theorem simpInfo:(Tryz.prog.info? 63).map (fun i=>(i.zero,i.size,i.bytes))=some (some (.agg #[S [],.slice none 0 0]),2,40):=by kernel_rfl
theorem oneCellS:∀u∈[S [105],Value.slice none 0 0],u.oneCell'=true:=by
 intro u hu
 simp at hu
 rcases hu with rfl | rfl <;> rfl
def simsX (k:Nat):List Value:=(List.replicate k [S [105],Value.slice none 0 0]).flatten
theorem simsX_succ (k:Nat):simsX k++[S [105],Value.slice none 0 0]=simsX (k+1):=by
 unfold simsX
 rw [List.replicate_succ',List.flatten_append]
 simp
theorem simsX_at:∀ (n k:Nat),k<n→(simsX n)[k*2]?=some (S [105])∧(simsX n)[k*2+1]?=some (Value.slice none 0 0)
 | 0,_,h=>by omega
 | n+1,0,_=>by unfold simsX;simp [List.replicate_succ]
 | n+1,k+1,h=>by
  have:=simsX_at n k (by omega)
  unfold simsX at this ⊢
  rw [List.replicate_succ,List.flatten_cons]
  simp only [show (k+1)*2=k*2+1+1 by omega,List.cons_append,List.nil_append,List.getElem?_cons_succ]
  exact this
structure Mid2 (tL:TypeId) (sL:Nat) (tR:TypeId) (sR base:Nat) (wr:World) (vL0 vR0:Value) (W:World) (vL:Value) (nL:Nat) (xL:List Value) (vR:Value) (nR:Nat) (xR:List Value):Prop where
 L:W.ownsRow base tL sL vL nL xL
 R:W.ownsRow base tR sR vR nR xR
 dj:∀b,vL.ownBlock=some b→vR.ownBlock≠some b
 keep:∀b,b<wr.heap.size→vL0.ownBlock≠some b→vR0.ownBlock≠some b→W.heap[b]?=wr.heap[b]?
 fL:vL.ownBlock=vL0.ownBlock∨∃g,vL.ownBlock=some g∧wr.heap.size≤g
 fR:vR.ownBlock=vR0.ownBlock∨∃g,vR.ownBlock=some g∧wr.heap.size≤g
 size:wr.heap.size≤W.heap.size
 os:W.os=wr.os
 tape:W.tape=wr.tape
 output:W.output=wr.output
section
variable {tL tR:TypeId} {sL sR base:Nat} {wr W w':World} {vL0 vR0 vL vR v':Value} {nL nR nL' nR':Nat} {xL xR xL' xR':List Value}
theorem Mid2.start (hL:wr.ownsRow base tL sL vL nL xL) (hR:wr.ownsRow base tR sR vR nR xR) (hd:∀b,vL.ownBlock=some b→vR.ownBlock≠some b):Mid2 tL sL tR sR base wr vL vR wr.drew vL nL xL vR nR xR :=
 ⟨hL.drew,hR.drew,hd,fun _ _ _ _=>rfl,.inl rfl,.inl rfl,zN _,rfl,rfl,rfl⟩
theorem Mid2.alloc (h:Mid2 tL sL tR sR base wr vL0 vR0 W vL nL xL vR nR xR) (o:Obj):Mid2 tL sL tR sR base wr vL0 vR0 (W.alloc o) vL nL xL vR nR xR :=
 ⟨h.L.alloc _,h.R.alloc _,h.dj,fun b hb h1 h2=>(zA _ _ _ (Nat.lt_of_lt_of_le hb h.size)).trans (h.keep b hb h1 h2),h.fL,h.fR,Nat.le_trans h.size (by simp),h.os,h.tape,h.output⟩
theorem Mid2.appL (h:Mid2 tL sL tR sR base wr vL0 vR0 W vL nL xL vR nR xR) (hown:w'.ownsRow base tL sL v' nL' xL') (hg:W.grownBy w' vL.ownBlock) (hloc:v'.ownBlock=vL.ownBlock∨v'.ownBlock=some W.heap.size):Mid2 tL sL tR sR base wr vL0 vR0 w' v' nL' xL' vR nR xR:=by
 have hs:=hg.size
 have hsz:=h.size
 refine ⟨hown,ownsRow_keep h.R (fun g hg2=>hg.block g (h.R.lt g hg2).2 (fun e=>h.dj g e.symm hg2)),fun b hb hb2=>?_,fun b hb h1 h2=>?_,?_,h.fR,by omega,hg.os.trans h.os,hg.tape.trans h.tape,hg.output.trans h.output⟩
 ·rcases hloc with e | e
  ·exact h.dj b (e ▸ hb) hb2
  rw [e] at hb;have:=zO hb;have:=(h.R.lt b hb2).2;omega
 ·refine (hg.block b (by omega) (fun e=>?_)).trans (h.keep b hb h1 h2)
  rcases h.fL with e2 | ⟨g,e2,hge⟩
  ·exact h1 (e2 ▸ e.symm)
  rw [e2] at e;have:=zO e;omega
 rcases hloc with e | e
 ·rw [e];exact h.fL
 exact .inr ⟨_,e,hsz⟩
theorem Mid2.appR (h:Mid2 tL sL tR sR base wr vL0 vR0 W vL nL xL vR nR xR) (hown:w'.ownsRow base tR sR v' nR' xR') (hg:W.grownBy w' vR.ownBlock) (hloc:v'.ownBlock=vR.ownBlock∨v'.ownBlock=some W.heap.size):Mid2 tL sL tR sR base wr vL0 vR0 w' vL nL xL v' nR' xR':=by
 have hs:=hg.size
 have hsz:=h.size
 refine ⟨ownsRow_keep h.L (fun g hg2=>hg.block g (h.L.lt g hg2).2 (fun e=>h.dj g hg2 e.symm)),hown,fun b hb hb2=>?_,fun b hb h1 h2=>?_,h.fL,?_,by omega,hg.os.trans h.os,hg.tape.trans h.tape,hg.output.trans h.output⟩
 ·rcases hloc with e | e
  ·exact h.dj b hb (e ▸ hb2)
  rw [e] at hb2;have:=zO hb2;have:=(h.L.lt b hb).2;omega
 ·refine (hg.block b (by omega) (fun e=>?_)).trans (h.keep b hb h1 h2)
  rcases h.fR with e2 | ⟨g,e2,hge⟩
  ·exact h2 (e2 ▸ e.symm)
  rw [e2] at e;have:=zO e;omega
 rcases hloc with e | e
 ·rw [e];exact h.fR
 exact .inr ⟨_,e,hsz⟩
theorem Ext.new2 (h:Mid2 tL sL tR sR base wr vL0 vR0 W vL nL xL vR nR xR) (cur:Array Value) (t:TypeId):Ext (W.alloc (.cells cur t)) vL vR W.heap.size (.cells cur t (0,0)) :=
 ⟨zW _ _,fun e=>by have:=(h.L.lt _ e).2;omega,fun e=>by have:=(h.R.lt _ e).2;omega⟩
theorem Mid2.kept (h:Mid2 tL sL tR sR base wr vL0 vR0 W vL nL xL vR nR xR):(∀b,(base≤b∧vL0.ownBlock≠some b∧vR0.ownBlock≠some b)→b<wr.heap.size→W.heap[b]?=wr.heap[b]?)∧(∀b,b<wr.heap.size→(base≤b∧vL0.ownBlock≠some b∧vR0.ownBlock≠some b)→(base≤b∧vL.ownBlock≠some b∧vR.ownBlock≠some b)) :=
 ⟨fun b hb hlt=>h.keep b hlt hb.2.1 hb.2.2,fun b hlt hb=>⟨hb.1,fun e=>by
  rcases h.fL with e2 | ⟨g,e2,hge⟩
  ·exact hb.2.1 (e2 ▸ e)
  ·rw [e2] at e;have:=zO e;omega,fun e=>by
  rcases h.fR with e2 | ⟨g,e2,hge⟩
  ·exact hb.2.2 (e2 ▸ e)
  rw [e2] at e;have:=zO e;omega⟩⟩
end
theorem apS {ops:Array Oper} {o:Oper} {a:Act} {w:World} {K:Act→World→Prop} {Q:Exit→Act→World→Prop} {E:Prop} {s x:Operand} {base n g:Nat} {v:Value} {xs:List Value}
  (hown:w.ownsRow base 63 2 v n xs) (hnews:∀j u,[S [105],Value.slice none 0 0][j]?=some u→w.cell? ((⟨g,0,none⟩:Addr).add j)=some u) (h63:n+1≤maxLen) (hbytes:(n+1)*40≤140737488355328) (hbase:base≤w.heap.size)
  (h:∀A c w',w'.ownsRow base 63 2 (.slice A (n+1) c) (n+1) (xs++[S [105],Value.slice none 0 0])→w.grownBy w' v.ownBlock→((Value.slice A (n+1) c).ownBlock=v.ownBlock∨(Value.slice A (n+1) c).ownBlock=some w.heap.size)→K (a.put o.dst (.slice A (n+1) c)) w')
  (hgd:o.guard=none:=by rfl) (ho:o.op=.call { callee:=.builtin .append,args:=#[s,x],argTypes:=#[61,61] }:=by rfl) (hs:a.eval s=v:=by rfl) (hx:a.eval x=.slice (some ⟨g,0,none⟩) 1 1:=by rfl) :
  if Region.wanted o (yielded ops a.tmps)=true then Oper.wp Tryz.prog o a w K Q else E:=by
 obtain ⟨i0,hi,hz0,hz1,hz2⟩:=info_parts simpInfo
 refine step_append_own_at w hgd s x 61 ho base 63 i0 (.agg #[S [],.slice none 0 0]) 2 40 Tryz.underlying61 hi hz0 hz1 hz2 rfl (by decide) v n xs hs hown ⟨g,0,none⟩ 1 1 _ hx rfl hnews oneCellS h63 hbytes hbase ?_
 intro v' w' h2 h3 h4
 obtain ⟨A,c,rfl⟩:=oform h2
 exact h A c w' h2 h3 h4
theorem apF {ops:Array Oper} {o:Oper} {a:Act} {w:World} {K:Act→World→Prop} {Q:Exit→Act→World→Prop} {E:Prop} {s x:Operand} {base n g:Nat} {v:Value} {xs:List Value} (news:List Value)
  (hown:w.ownsRow base 70 9 v n xs) (hnews:∀j u,news[j]?=some u→w.cell? ((⟨g,0,none⟩:Addr).add j)=some u) (h1:∀u∈news,u.oneCell'=true) (h63:n+1≤maxLen) (hbytes:(n+1)*120≤140737488355328) (hbase:base≤w.heap.size)
  (h:∀A c w',w'.ownsRow base 70 9 (.slice A (n+1) c) (n+1) (xs++news)→w.grownBy w' v.ownBlock→((Value.slice A (n+1) c).ownBlock=v.ownBlock∨(Value.slice A (n+1) c).ownBlock=some w.heap.size)→K (a.put o.dst (.slice A (n+1) c)) w')
  (hgd:o.guard=none:=by rfl) (ho:o.op=.call { callee:=.builtin .append,args:=#[s,x],argTypes:=#[23,23] }:=by rfl) (hs:a.eval s=v:=by rfl) (hx:a.eval x=.slice (some ⟨g,0,none⟩) 1 1:=by rfl) (hl:news.length=1*9:=by rfl) :
  if Region.wanted o (yielded ops a.tmps)=true then Oper.wp Tryz.prog o a w K Q else E:=by
 obtain ⟨i0,hi,hz0,hz1,hz2⟩:=info_parts factInfo
 refine step_append_own_at w hgd s x 23 ho base 70 i0 (.agg #[.int .i64 0,S [],.int .i64 0,.slice none 0 0,.int .i64 0,.int .i64 0,S [],.int .i64 0,.slice none 0 0]) 9 120 Tryz.underlying23 hi hz0 hz1 hz2 rfl (by decide) v n xs hs hown ⟨g,0,none⟩ 1 1 news hx hl hnews h1 h63 hbytes hbase ?_
 intro v' w' h2 h3 h4
 obtain ⟨A,c,rfl⟩:=oform h2
 exact h A c w' h2 h3 h4
structure InI (w5:World) (T sB Vb Sb base:Nat) (ks:List Int) (k:Nat) (vs:List Lfc.Raw) (A:Option Addr) (c:Nat) (B:Option Addr) (d:Nat) (W:World):Prop where
 bel:Below w5.heap.size w5 W
 tape:TapeI T W
 sb:W.heap[sB]?=some (.cells #[S [105],.slice none 0 0] 63 (0,0))
 vb:W.heap[Vb]?=some (.cells #[.slice A k c] 27 (0,0))
 ss:W.heap[Sb]?=some (.cells #[.slice B k d] 61 (0,0))
 len:vs.length=k
 rows:∃xV,W.ownsRow base 51 4 (.slice A k c) k xV∧W.ownsRow base 63 2 (.slice B k d) k (simsX k)∧RowP (fun b=>base≤b∧(Value.slice A k c).ownBlock≠some b∧(Value.slice B k d).ownBlock≠some b) W vs xV
 dj:∀b,(Value.slice A k c).ownBlock=some b→(Value.slice B k d).ownBlock≠some b
 val:∀ (i:Nat) (h:i<vs.length),(Lfc.kindOf ks (i:Int)≠1→vs[i]=Lfc.vv i)∧(Lfc.kindOf ks (i:Int)=1→vs[i].cl=true∧vs[i].size≤3)
 size:base≤W.heap.size
theorem InI.othT {w5 W W':World} {T sB Vb Sb base k c d:Nat} {ks:List Int} {vs:List Lfc.Raw} {A B:Option Addr} (h:InI w5 T sB Vb Sb base ks k vs A c B d W) (h5:w5.heap.size≤T) (hT:T<base) (h1:sB≠T) (h2:Vb≠T) (h3:Sb≠T) (ho:Oth T W W') (ht:TapeI T W'):InI w5 T sB Vb Sb base ks k vs A c B d W':=by
 obtain ⟨xV,r1,r2,r3⟩:=h.rows
 have hs:=h.size
 have hb5:=h.bel.size
 have hk:∀b,base≤b→b<W.heap.size→W'.heap[b]?=W.heap[b]?:=fun b hb hlt=>ho.block b hlt (fun e=>by have:=zO e;omega)
 exact ⟨Oth.below h.bel ho h5 hb5,ht,ho.heap h.sb h1,ho.heap h.vb h2,ho.heap h.ss h3,h.len,⟨xV,ownsRow_keep r1 (fun g hg=>hk g (r1.lt g hg).1 (r1.lt g hg).2),ownsRow_keep r2 (fun g hg=>hk g (r2.lt g hg).1 (r2.lt g hg).2),r3.keep (fun b hb hlt=>hk b hb.1 hlt) ho.size (fun _ _ h=>h)⟩,h.dj,h.val,Nat.le_trans hs ho.size⟩
theorem InI.push {w5 wr W:World} {T sB Vb Sb base k c d:Nat} {ks:List Int} {vs:List Lfc.Raw} {A B A' B':Option Addr} {c' d':Nat} {x:Lfc.Raw} {x0 x1 x2 x3:Value} {xV:List Value} (h:InI w5 T sB Vb Sb base ks k vs A c B d wr) (h5:w5.heap.size≤T∧w5.heap.size≤Vb∧w5.heap.size≤Sb) (hT:T<base) (hs:sB<base) (hV:Vb<base) (hS:Sb<base) (n1:T<Vb) (n2:T<Sb) (n3:sB≠Vb) (n4:sB≠Sb) (n5:Vb≠Sb)
  (hr:RowP (fun b=>base≤b∧(Value.slice A k c).ownBlock≠some b∧(Value.slice B k d).ownBlock≠some b) wr vs xV)
  (hx:TreeP (fun b=>base≤b∧(Value.slice A k c).ownBlock≠some b∧(Value.slice B k d).ownBlock≠some b) wr x x0 x1 x2 x3) (hval:(Lfc.kindOf ks (k:Int)≠1→x=Lfc.vv k)∧(Lfc.kindOf ks (k:Int)=1→x.cl=true∧x.size≤3))
  (hM:Mid2 51 4 63 2 base wr (.slice A k c) (.slice B k d) W (.slice A' (k+1) c') (k+1) (xV++[x0,x1,x2,x3]) (.slice B' (k+1) d') (k+1) (simsX k++[S [105],Value.slice none 0 0])) :
  InI w5 T sB Vb Sb base ks (k+1) (vs++[x]) A' c' B' d' ((W.setCell ⟨Vb,0,none⟩ (.slice A' (k+1) c')).setCell ⟨Sb,0,none⟩ (.slice B' (k+1) d')):=by
 obtain ⟨W1,hW1⟩:∃W1,W.setCell ⟨Vb,0,none⟩ (.slice A' (k+1) c')=W1:=⟨_,rfl⟩
 obtain ⟨W2,hW2⟩:∃W2,W1.setCell ⟨Sb,0,none⟩ (.slice B' (k+1) d')=W2:=⟨_,rfl⟩
 rw [hW1,hW2]
 have o1:Oth Vb W W1:=by rw [←hW1];exact Oth.set _ _
 have o2:Oth Sb W1 W2:=by rw [←hW2];exact Oth.set _ _
 have hsz:=h.size
 have hsM:=hM.size
 have hs1:=o1.size
 have hs2:=o2.size
 have hb5:=h.bel.size
 have hnb:∀b,b<base→(Value.slice A k c).ownBlock≠some b∧(Value.slice B k d).ownBlock≠some b:=fun b hb=>by
  obtain ⟨xV,r1,r2,_⟩:=h.rows
  exact ⟨fun e=>by have:=(r1.lt b e).1;omega,fun e=>by have:=(r2.lt b e).1;omega⟩
 have hW:∀b,b<base→W.heap[b]?=wr.heap[b]?:=fun b hb=>hM.keep b (by omega) (hnb b hb).1 (hnb b hb).2
 have hold:∀b,b<base→b≠Vb→b≠Sb→W2.heap[b]?=wr.heap[b]?:=fun b hb hv hs=>(o2.block b (by omega) (fun e=>hs (zO e))).trans ((o1.block b (by omega) (fun e=>hv (zO e))).trans (hW b hb))
 have hnew:∀b,base≤b→b<W.heap.size→W2.heap[b]?=W.heap[b]?:=fun b hb hlt=>(o2.block b (by omega) (fun e=>by have:=zO e;omega)).trans (o1.block b (by omega) (fun e=>by have:=zO e;omega))
 obtain ⟨hk1,hk2⟩:=hM.kept
 have hkk:∀b,(base≤b∧(Value.slice A k c).ownBlock≠some b∧(Value.slice B k d).ownBlock≠some b)→b<wr.heap.size→W2.heap[b]?=wr.heap[b]?:=fun b hb hlt=>(hnew b hb.1 (by omega)).trans (hk1 b hb hlt)
 have hrow:∀ {e:TypeId} {s:Nat} {v:Value} {n:Nat} {xs:List Value},W.ownsRow base e s v n xs→W2.ownsRow base e s v n xs:=fun hr=>ownsRow_keep hr (fun g hg=>hnew g (hr.lt g hg).1 (hr.lt g hg).2)
 have hv1:W1.heap[Vb]?=some (.cells #[.slice A' (k+1) c'] 27 (0,0)):=by
  have:=(hW Vb hV).trans h.vb
  rw [←hW1];simp [World.setCell,Array.getElem?_modify,this]
 have hs1':W2.heap[Sb]?=some (.cells #[.slice B' (k+1) d'] 61 (0,0)):=by
  have:=(o1.block Sb (by omega) (fun e=>n5 (zO e).symm)).trans ((hW Sb hS).trans h.ss)
  rw [←hW2];simp [World.setCell,Array.getElem?_modify,this]
 refine ⟨⟨?_,?_,?_,by omega,fun b hb=>?_⟩,h.tape.like (fun b hb=>?_),(hold _ hs n3 n4).trans h.sb,(o2.block _ (by omega) (fun e=>n5 (zO e))).trans hv1,hs1',by rw [List.length_append,h.len];rfl,⟨_,hrow hM.L,by rw [←simsX_succ];exact hrow hM.R,RowP.append (RowP.one (TreeP.keep hkk (by omega) hk2 _ _ _ _ _ hx)) (hr.keep hkk (by omega) hk2)⟩,hM.dj,fun i hi=>?_,by omega⟩
 ·exact o2.os.trans (o1.os.trans (hM.os.trans h.bel.os))
 ·exact o2.tape.trans (o1.tape.trans (hM.tape.trans h.bel.tape))
 ·exact o2.output.trans (o1.output.trans (hM.output.trans h.bel.output))
 ·exact (hold b (by omega) (by omega) (by omega)).trans (h.bel.block b hb)
 ·exact hold b (by omega) (by omega) (by omega)
 rw [List.length_append,List.length_singleton] at hi
 by_cases hlt:i<vs.length
 ·rw [List.getElem_append_left hlt]
  exact h.val i hlt
 have hl:=h.len
 obtain rfl:i=k:=by omega
 rw [List.getElem_append_right (by omega)]
 simpa using hval
theorem TreesAtP.toAt' {q:Nat→Prop} {w:World} {A:Option Addr} {ts:List Lfc.Raw} (h:TreesAtP q w A ts):TreesAt w A ts:=fun hne=>by
 obtain ⟨b,o,hA,hlt,hb,h⟩:=h hne
 exact ⟨b,o,hA,hlt,TreesP.toC ts b o h⟩
theorem InI.done {w5 W:World} {T sB Vb Sb base k c d:Nat} {ks:List Int} {vs:List Lfc.Raw} {A B:Option Addr} (h:InI w5 T sB Vb Sb base ks k vs A c B d W) (hk:ks.length=k):Lfc.Vals ks vs∧TreesAt W A vs∧(A=none→k=0∧c=0)∧SimsAt W B k:=by
 obtain ⟨xV,r1,r2,r3⟩:=h.rows
 have hT:=treesP_own (q:=fun _=>True) h.len r1 (fun _ _=>trivial) (r3.keep (fun _ _ _=>rfl) (zN _) (fun _ _ _=>trivial))
 refine ⟨⟨by rw [h.len,hk],fun i hi=>(h.val i hi).1,fun i hi=>(h.val i hi).2⟩,hT.1.toAt',hT.2,fun hk0=>?_⟩
 rcases r2.2 with ⟨_,e0⟩ | ⟨g,cap,cur,hv,hbg,hg,_⟩
 ·omega
 injection hv with e1 _ _
 refine ⟨g,0,e1,zL hg,fun j hj=>?_⟩
 subst e1
 have hc:=r2.cells (g:=g) rfl
 have ha:=simsX_at k j hj
 have h1:=hc (j*2) _ ha.1
 have h2:=hc (j*2+1) _ ha.2
 rw [ocell_add] at h1 h2
 simp only [Nat.zero_add]
 exact ⟨h1,h2⟩
structure FI (wv:World) (vs:List Lfc.Raw) (fs:List Lfc.Fact) (k:Nat) (gs:List Lfc.Fact) (F:Option Addr) (c:Nat) (W:World):Prop where
 bel:Below wv.heap.size wv W
 row:∃xF,W.ownsRow wv.heap.size 70 9 (.slice F k c) k xF∧FRow (fun b=>wv.heap.size≤b∧(Value.slice F k c).ownBlock≠some b) W gs xF
 len:gs.length=k
 rel:∀ (i:Nat) (h:i<gs.length) (h':i<fs.length),gs[i].rel=fs[i].rel∧Lfc.sbR vs fs[i].l gs[i].l 0∧Lfc.sbR vs fs[i].r gs[i].r 0
theorem FI.start (w:World) (vs:List Lfc.Raw) (fs:List Lfc.Fact):FI w vs fs 0 [] none 0 w :=
 ⟨zB _ _,⟨[],World.ownsRow_nil w w.heap.size _ 9,by rw [FRow]⟩,rfl,fun i h=>by cases h⟩
theorem FI.below {wv W W':World} {vs:List Lfc.Raw} {fs gs:List Lfc.Fact} {k c:Nat} {F:Option Addr} (h:FI wv vs fs k gs F c W) (hb:Below W.heap.size W W'):FI wv vs fs k gs F c W':=by
 obtain ⟨xF,r1,r2⟩:=h.row
 exact ⟨h.bel.trans (hb.mono h.bel.size),⟨xF,ownsRow_keep r1 (fun g hg=>hb.block g (r1.lt g hg).2),r2.keep (fun b _ hlt=>hb.block b hlt) hb.size (fun _ _ h=>h)⟩,h.len,h.rel⟩
theorem FI.push {wv W w10:World} {vs:List Lfc.Raw} {fs gs:List Lfc.Fact} {f f':Lfc.Fact} {kn k p k' p':_} {n1 n2:List UInt8} {ls rs:List Lfc.Raw} {F A A' F':Option Addr} {c0 c c' f0':Nat} {xF:List Value} {o:Obj} (h:FI wv vs fs kn gs F c0 W) (hfl:∃h:kn<fs.length,fs[kn]=f)
  (hown:W.ownsRow wv.heap.size 70 9 (.slice F kn c0) kn xF) (hrow:FRow (fun b=>wv.heap.size≤b∧(Value.slice F kn c0).ownBlock≠some b) W gs xF) (he:f'.l=.node k n1 p ls∧f'.r=.node k' n2 p' rs)
  (hl:TreeVP (fun b=>wv.heap.size≤b∧(Value.slice F kn c0).ownBlock≠some b) W f'.l (.agg #[.int .i64 k,S n1,.int .i64 p,.slice A (List.length ls) c])) (hr:TreeVP (fun b=>wv.heap.size≤b∧(Value.slice F kn c0).ownBlock≠some b) W f'.r (.agg #[.int .i64 k',S n2,.int .i64 p',.slice A' (List.length rs) c']))
  (hg:f'.rel=f.rel∧Lfc.sbR vs f.l f'.l 0∧Lfc.sbR vs f.r f'.r 0)
  (hown':w10.ownsRow wv.heap.size 70 9 (.slice F' (kn+1) f0') (kn+1) (xF++[.int .i64 k,S n1,.int .i64 p,.slice A (List.length ls) c,.int .i64 f'.rel,.int .i64 k',S n2,.int .i64 p',.slice A' (List.length rs) c'])) (hgr:(W.alloc o).grownBy w10 (Value.slice F kn c0).ownBlock) (hloc:(Value.slice F' (kn+1) f0').ownBlock=(Value.slice F kn c0).ownBlock∨(Value.slice F' (kn+1) f0').ownBlock=some (W.heap.size+1)) :
  FI wv vs fs (kn+1) (gs++[f']) F' f0' w10:=by
 have hs10:W.heap.size+1≤w10.heap.size:=by have:=hgr.size;simpa using this
 have hlt:∀b,(Value.slice F kn c0).ownBlock=some b→wv.heap.size≤b∧b<W.heap.size:=fun b e=>hown.lt b e
 have hwv:=h.bel.size
 have k10:∀b,b<W.heap.size→(Value.slice F kn c0).ownBlock≠some b→w10.heap[b]?=W.heap[b]?:=fun b hb hne=>(hgr.block b (by simp;omega) (fun e=>hne e.symm)).trans (zA _ _ _ hb)
 have hk:∀b,(wv.heap.size≤b∧(Value.slice F kn c0).ownBlock≠some b)→b<W.heap.size→w10.heap[b]?=W.heap[b]?:=fun b hb hlt=>k10 b hlt hb.2
 have hq:∀b,b<W.heap.size→(wv.heap.size≤b∧(Value.slice F kn c0).ownBlock≠some b)→(wv.heap.size≤b∧(Value.slice F' (kn+1) f0').ownBlock≠some b):=fun b hlt hb=>⟨hb.1,fun e=>by
  rcases hloc with e2 | e2
  ·exact hb.2 (e2 ▸ e)
  rw [e2] at e;have:=zO e;omega⟩
 refine ⟨⟨hgr.os.trans h.bel.os,hgr.tape.trans h.bel.tape,hgr.output.trans h.bel.output,by omega,fun b hb=>(k10 b (by omega) (fun e=>by have:=(hlt b e).1;omega)).trans (h.bel.block b hb)⟩,⟨_,hown',FRow.append (gs:=[f']) (zs:=[.int .i64 k,S n1,.int .i64 p,.slice A (List.length ls) c,.int .i64 f'.rel,.int .i64 k',S n2,.int .i64 p',.slice A' (List.length rs) c']) (by rw [FRow];exact ⟨k,n1,p,ls,A,c,k',n2,p',rs,A',c',[],rfl,he,⟨hl.keep hk (by omega) hq,hr.keep hk (by omega) hq⟩,by rw [FRow]⟩) (hrow.keep hk (by omega) hq)⟩,by rw [List.length_append,h.len];rfl,fun i hi hi'=>?_⟩
 rw [List.length_append,List.length_singleton] at hi
 have hln:=h.len
 by_cases hlt:i<gs.length
 ·rw [List.getElem_append_left hlt]
  exact h.rel i hlt hi'
 obtain rfl:i=kn:=by omega
 obtain ⟨_,rfl⟩:=hfl
 rw [List.getElem_append_right (by omega)]
 simpa [hln] using hg
structure LI (wf:World) (vs ts us:List Lfc.Raw) (k:Nat) (xs ys:List Lfc.Raw) (A:Option Addr) (c:Nat) (B:Option Addr) (d:Nat) (W:World):Prop where
 bel:Below wf.heap.size wf W
 rows:∃xA xB,W.ownsRow wf.heap.size 51 4 (.slice A k c) k xA∧W.ownsRow wf.heap.size 51 4 (.slice B k d) k xB∧RowP (fun b=>wf.heap.size≤b∧(Value.slice A k c).ownBlock≠some b∧(Value.slice B k d).ownBlock≠some b) W xs xA∧RowP (fun b=>wf.heap.size≤b∧(Value.slice A k c).ownBlock≠some b∧(Value.slice B k d).ownBlock≠some b) W ys xB
 dj:∀b,(Value.slice A k c).ownBlock=some b→(Value.slice B k d).ownBlock≠some b
 lx:xs.length=k
 ly:ys.length=k
 rx:∀ (i:Nat) (h:i<xs.length) (h':i<ts.length),Lfc.sbR vs ts[i] xs[i] 0
 ry:∀ (i:Nat) (h:i<ys.length) (h':i<us.length),Lfc.sbR vs us[i] ys[i] 0
theorem LI.start (w:World) (vs ts us:List Lfc.Raw):LI w vs ts us 0 [] [] none 0 none 0 w :=
 ⟨zB _ _,⟨[],[],World.ownsRow_nil w w.heap.size _ 4,World.ownsRow_nil w w.heap.size _ 4,by rw [RowP],by rw [RowP]⟩,(fun b e=>by simp [Value.ownBlock] at e),rfl,rfl,(fun i h=>by cases h),(fun i h=>by cases h)⟩
theorem LI.below {wf W W':World} {vs ts us xs ys:List Lfc.Raw} {k c d:Nat} {A B:Option Addr} (h:LI wf vs ts us k xs ys A c B d W) (hb:Below W.heap.size W W'):LI wf vs ts us k xs ys A c B d W':=by
 obtain ⟨xA,xB,r1,r2,r3,r4⟩:=h.rows
 exact ⟨h.bel.trans (hb.mono h.bel.size),⟨xA,xB,ownsRow_keep r1 (fun g hg=>hb.block g (r1.lt g hg).2),ownsRow_keep r2 (fun g hg=>hb.block g (r2.lt g hg).2),r3.keep (fun b _ hlt=>hb.block b hlt) hb.size (fun _ _ h=>h),r4.keep (fun b _ hlt=>hb.block b hlt) hb.size (fun _ _ h=>h)⟩,h.dj,h.lx,h.ly,h.rx,h.ry⟩
theorem LI.push {wf wr W:World} {vs ts us xs ys:List Lfc.Raw} {k c d c' d':Nat} {A B A' B':Option Addr} {t u x y:Lfc.Raw} {x0 x1 x2 x3 y0 y1 y2 y3:Value} {xA xB:List Value} (h:LI wf vs ts us k xs ys A c B d wr)
  (hrA:RowP (fun b=>wf.heap.size≤b∧(Value.slice A k c).ownBlock≠some b∧(Value.slice B k d).ownBlock≠some b) wr xs xA) (hrB:RowP (fun b=>wf.heap.size≤b∧(Value.slice A k c).ownBlock≠some b∧(Value.slice B k d).ownBlock≠some b) wr ys xB)
  (hx:TreeP (fun b=>wf.heap.size≤b∧(Value.slice A k c).ownBlock≠some b∧(Value.slice B k d).ownBlock≠some b) wr x x0 x1 x2 x3) (hy:TreeP (fun b=>wf.heap.size≤b∧(Value.slice A k c).ownBlock≠some b∧(Value.slice B k d).ownBlock≠some b) wr y y0 y1 y2 y3)
  (ht:∃h:k<ts.length,ts[k]=t) (hu:∃h:k<us.length,us[k]=u) (htx:Lfc.sbR vs t x 0) (huy:Lfc.sbR vs u y 0)
  (hM:Mid2 51 4 51 4 wf.heap.size wr (.slice A k c) (.slice B k d) W (.slice A' (k+1) c') (k+1) (xA++[x0,x1,x2,x3]) (.slice B' (k+1) d') (k+1) (xB++[y0,y1,y2,y3])) :
  LI wf vs ts us (k+1) (xs++[x]) (ys++[y]) A' c' B' d' W:=by
 have hsM:=hM.size
 have hbs:=h.bel.size
 obtain ⟨hk1,hk2⟩:=hM.kept
 have hnb:∀b,b<wf.heap.size→(Value.slice A k c).ownBlock≠some b∧(Value.slice B k d).ownBlock≠some b:=fun b hb=>by
  obtain ⟨xA,xB,r1,r2,_⟩:=h.rows
  exact ⟨fun e=>by have:=(r1.lt b e).1;omega,fun e=>by have:=(r2.lt b e).1;omega⟩
 have h1:=h.lx
 have h2:=h.ly
 refine ⟨⟨hM.os.trans h.bel.os,hM.tape.trans h.bel.tape,hM.output.trans h.bel.output,by omega,fun b hb=>(hM.keep b (by omega) (hnb b hb).1 (hnb b hb).2).trans (h.bel.block b hb)⟩,⟨_,_,hM.L,hM.R,RowP.append (RowP.one (TreeP.keep hk1 hsM hk2 _ _ _ _ _ hx)) (hrA.keep hk1 hsM hk2),RowP.append (RowP.one (TreeP.keep hk1 hsM hk2 _ _ _ _ _ hy)) (hrB.keep hk1 hsM hk2)⟩,hM.dj,by rw [List.length_append,h1];rfl,by rw [List.length_append,h2];rfl,fun i hi hi'=>?_,fun i hi hi'=>?_⟩
 ·rw [List.length_append,List.length_singleton] at hi
  by_cases hlt:i<xs.length
  ·rw [List.getElem_append_left hlt]
   exact h.rx i hlt hi'
  obtain rfl:i=k:=by omega
  obtain ⟨_,rfl⟩:=ht
  rw [List.getElem_append_right (by omega)]
  simpa [h1] using htx
 rw [List.length_append,List.length_singleton] at hi
 by_cases hlt:i<ys.length
 ·rw [List.getElem_append_left hlt]
  exact h.ry i hlt hi'
 obtain rfl:i=k:=by omega
 obtain ⟨_,rfl⟩:=hu
 rw [List.getElem_append_right (by omega)]
 simpa [h2] using huy
end Go.Proofs.YtadjpadieljjlaaGreat
namespace Go.Proofs.YtadjpadieljjlaaGreat
open Go.RowKit
theorem sUnderX_any (kd ps i:Int) (nm:List UInt8) (A:Option Addr) (l c:Nat) (w:World) (h2:kd≠2) :
  Calls Tryz.prog 76 #[.agg #[.int .i64 kd,S nm,.int .i64 ps,.slice A l c],.int .i64 i] w fun e w'=>e=.returned (.int .i64 (((if kd=3 then 1 else 0):Nat):Int))∧Below w.heap.size w w':=by
 have HB:Hid (Below w.heap.size w (w.alloc (.cells #[.int .i64 kd,S nm,.int .i64 ps,.slice A l c] 51))):=zH ((zB _ _).alloc (zN _) _)
 obtain ⟨r,hr⟩:∃r:Nat,(if kd=3 then 1 else 0)=r:=⟨_,rfl⟩
 rw [hr]
 have HR:=zH hr
 clear hr
 have g2:(kd == 2)=false:=by simpa using h2
 by_cases h3:kd=3
 ·subst h3
  obtain rfl:1=r:=by have:=HR.out;simpa using this
  clear h2 g2
  go_enter Tryz.func76,Tryz.ntmps76
  go_wp2_with fail
  go_ret
  exact ⟨rfl,HB.out⟩
 have g3:(kd == 3)=false:=by simpa using h3
 obtain rfl:0=r:=by have:=HR.out;rwa [if_neg h3] at this
 clear h3 h2
 go_enter Tryz.func76,Tryz.ntmps76
 go_wp2_with fail
 go_ret
 exact ⟨rfl,HB.out⟩
theorem mGreat_any (m:Nat):∀ (t:Lfc.Raw) (v:Value) (w:World),t.size≤m→t.size≤1000000→TreeV w t v →
  Calls Tryz.prog 80 #[v] w fun e w'=>(∃z:Int,e=.returned (.int .i64 z))∧Below w.heap.size w w':=by
 induction m with
 | zero=>intro t v w h _ _;have:=t.size_pos;omega
 | succ m ih =>
  intro t v w hm hmax hv
  obtain ⟨kd,nm,ps,ts⟩:=t
  obtain ⟨A,c,rfl,hc,hA⟩:=hv.open_
  simp only [Lfc.Raw.size] at hm hmax
  have hlen:=Lfc.Raw.sizes_len ts
  have IH:=zH ih
  obtain ⟨w0,hw0⟩:∃w0,w.alloc (.cells #[.int .i64 kd,S nm,.int .i64 ps,.slice A ts.length c] 51)=w0:=⟨_,rfl⟩
  have b0:=zG hw0
  have s0:w.heap.size<w0.heap.size:=by rw [←hw0];simp
  have q0:=zQ hw0
  obtain ⟨y0,y1,y2,y3⟩:=cells4t q0
  have HA:=zH (hA.below b0)
  have HB:=zH y3
  clear ih hA hv q0
  by_cases hk5:kd=5
  ·subst hk5
   go_enter Tryz.func80,Tryz.ntmps80
   go_wp2_with fail
   generalize hG:w.heap.size=G at *
   go_loopw [3,4] (fun n i wr=>∃ (k:Nat) (z:Int),k≤ts.length∧i=.int .i64 k∧n=.int .i64 z∧Below w0.heap.size w0 wr) (fun _ i _=>ts.length-(intOf i).toNat)
   case atStart=>exact ⟨0,_,by omega,rfl,rfl,by first | exact zB _ _ | (rw [hw0];exact zB _ _)⟩
   have HGG:=zH hG
   clear hw0 hG y0 y1 y2 y3
   obtain ⟨k,z,hk,rfl,rfl,hbw⟩:=hrel
   have hbx:wr.cell? ⟨G,3,none⟩=some (.slice A ts.length c):=(hbw.cell (p:=⟨G,3,none⟩) s0).trans HB.out
   by_cases hlt:k<ts.length
   ·obtain ⟨b,o,k1,n1,p1,us,B,c1,rfl,hb,ht,c0',c1',c2',c3',hcu,hB,hT⟩:=(HA.out.below hbw).at_ hlt
    have hmem:=Lfc.Raw.sizes_mem ts ts[k] (List.getElem_mem _)
    clear hB ht
    go_wp2_with fail
    refine (IH.out ts[k] _ _ (by omega) (by omega) hT).mono ?_
    rintro e w1 ⟨⟨z1,rfl⟩,hb1⟩
    go_wp2_with fail
    go_roundw
    case rel=>exact ⟨k+1,_,by omega,by go_num,rfl,hbw.trans (hb1.mono hbw.size)⟩
    case measure=>simp [intOf];omega
   have hkl:k=ts.length:=by omega
   go_wp2_with fail
   go_ret
   exact ⟨⟨_,rfl⟩,by rw [HGG.out];exact b0.trans (hbw.mono (Nat.le_of_lt s0))⟩
  have hk5f:(kd == 5)=false:=by simpa using hk5
  clear hk5
  go_enter Tryz.func80,Tryz.ntmps80
  go_wp2_with fail
  generalize hG:w.heap.size=G at *
  go_loopw [3,4] (fun n i wr=>∃ (k:Nat) (z:Int),k≤ts.length∧i=.int .i64 k∧n=.int .i64 z∧Below w0.heap.size w0 wr) (fun _ i _=>ts.length-(intOf i).toNat)
  case atStart=>exact ⟨0,_,by omega,rfl,rfl,by first | exact zB _ _ | (rw [hw0];exact zB _ _)⟩
  have HGG:=zH hG
  clear hw0 hG y0 y1 y2 y3
  obtain ⟨k,z,hk,rfl,rfl,hbw⟩:=hrel
  have hbx:wr.cell? ⟨G,3,none⟩=some (.slice A ts.length c):=(hbw.cell (p:=⟨G,3,none⟩) s0).trans HB.out
  by_cases hlt:k<ts.length
  ·obtain ⟨b,o,k1,n1,p1,us,B,c1,rfl,hb,ht,c0',c1',c2',c3',hcu,hB,hT⟩:=(HA.out.below hbw).at_ hlt
   have hmem:=Lfc.Raw.sizes_mem ts ts[k] (List.getElem_mem _)
   clear hB ht
   go_wp2_with fail
   refine (IH.out ts[k] _ _ (by omega) (by omega) hT).mono ?_
   rintro e w1 ⟨⟨z1,rfl⟩,hb1⟩
   go_wp2_with fail
   go_roundw
   case rel=>exact ⟨k+1,_,by omega,by go_num,rfl,hbw.trans (hb1.mono hbw.size)⟩
   case measure=>simp [intOf];omega
  have hkl:k=ts.length:=by omega
  go_wp2_with fail
  go_ret
  exact ⟨⟨_,rfl⟩,by rw [HGG.out];exact b0.trans (hbw.mono (Nat.le_of_lt s0))⟩
end Go.Proofs.YtadjpadieljjlaaGreat
namespace Go.Proofs.YtadjpadieljjlaaGreat
open Go.RowKit Go.Maps
attribute [local go_sem ↓] Go.wp_at_zero Go.wp_at_succ
structure SbI (wa:World) (R base:Nat) (k:Int) (nm:List UInt8) (p:Int) (ts:List Lfc.Raw) (A:Option Addr) (c:Nat) (xs:List Value) (wr:World):Prop where
 r:wr.heap[R]?=some (.cells #[.int .i64 k,S nm,.int .i64 p,.slice A ts.length c] 51 (0,0))
 own:wr.ownsRow base 51 4 (.slice A ts.length c) ts.length xs
 row:RowP (fun b=>base≤b∧some b≠(Value.slice A ts.length c).ownBlock) wr ts xs
 below:Below R wa wr
 size:base≤wr.heap.size
theorem SbI.step {wa wr w9 w10:World} {R base:Nat} {k p k9 p9:Int} {nm n9:List UInt8} {ts ts9:List Lfc.Raw} {A A9:Option Addr} {c c9:Nat} {xs:List Value} {v':Value} (h:SbI wa R base k nm p ts A c xs wr) (hR:0<R) (hRb:R<base) (hwa:wa.heap.size≤R)
  (b9:Below wr.heap.size wr w9) (hp9:TreeP (fun b=>wr.heap.size≤b) w9 (.node k9 n9 p9 ts9) (.int .i64 k9) (S n9) (.int .i64 p9) (.slice A9 ts9.length c9))
  (hown':w10.ownsRow base 51 4 v' (ts.length+1) (xs++[.int .i64 k9,S n9,.int .i64 p9,.slice A9 ts9.length c9]))
  (hg:(w9.alloc (.cells #[.int .i64 k9,S n9,.int .i64 p9,.slice A9 ts9.length c9] 51)).grownBy w10 (Value.slice A ts.length c).ownBlock) (hloc:v'.ownBlock=(Value.slice A ts.length c).ownBlock∨v'.ownBlock=some (w9.heap.size+1)) :
  w10.heap[R]?=some (.cells #[.int .i64 k,S nm,.int .i64 p,.slice A ts.length c] 51 (0,0))∧Below R wa w10 ∧
  (∀A10 c10,v'=.slice A10 (ts.length+1) c10→SbI wa R base k nm p (ts++[.node k9 n9 p9 ts9]) A10 c10 (xs++[.int .i64 k9,S n9,.int .i64 p9,.slice A9 ts9.length c9]) (w10.setCell ⟨R,3,none⟩ v')):=by
 have o9:Oth 0 wr.drew w9:=⟨b9.os,b9.tape,b9.output,b9.size,fun j hj _=>b9.block j hj⟩
 have hsz:=h.size
 have hsr:=h.below.size
 have hs9:=b9.size
 have hown_lt:∀g,(Value.slice A ts.length c).ownBlock=some g→base≤g∧g<wr.heap.size:=fun g e=>h.own.lt g e
 have hs10:w9.heap.size+1≤w10.heap.size:=by have:=hg.size;simpa using this
 obtain ⟨f0,f1,f2,f3,f4,f5,f6,f7⟩:=trm_final hRb hR h.size hwa h.r h.own h.row (Oth.of_below (h.below.mono hwa)) o9 hp9 hown' hg hloc
 refine ⟨f0,⟨hg.os.trans (b9.os.trans h.below.os),hg.tape.trans (b9.tape.trans h.below.tape),hg.output.trans (b9.output.trans h.below.output),by omega,fun b hb=>?_⟩,?_⟩
 ·rw [hg.block b (by simp;omega) (fun e=>by have:=(hown_lt b e.symm).1;omega),zA _ _ _ (by omega),b9.block b (by omega)]
  exact h.below.block b hb
 rintro A10 c10 rfl
 have el:(ts++[Lfc.Raw.node k9 n9 p9 ts9]).length=ts.length+1:=by rw [List.length_append];rfl
 refine ⟨by rw [el];exact f1,by rw [el];rw [el] at f2;exact f2,by rw [el];exact f3,⟨f4.os,f4.tape,f4.output,f4.size,fun b hb=>?_⟩,f5⟩
 refine Eq.trans ?_ (h.below.block b hb)
 by_cases hb0:b=0
 ·rw [hb0,f7]
  exact b9.block 0 (by omega)
 exact f6 b (by omega) (by omega) hb0
theorem SbI.start {wa wr:World} {R:Nat} {k p:Int} {nm:List UInt8} (hq:wr.heap[R]?=some (.cells #[.int .i64 k,S nm,.int .i64 p,.slice none 0 0] 51 (0,0))) (hb:Below R wa wr):SbI wa R (R+1) k nm p [] none 0 [] wr :=
 ⟨hq,⟨by simp,.inl ⟨rfl,rfl⟩⟩,by rw [RowP],hb,zL hq⟩
theorem belowR {R:Nat} {wa wr W:World} (h:Below wr.heap.size wr W) (hb:Below R wa wr) (hR:R≤wr.heap.size):Below R wa W:=hb.trans (h.mono hR)
theorem term_fin {w wr:World} {G:Nat} {k p:Int} {nm:List UInt8} {ts:List Lfc.Raw} {A:Option Addr} {c:Nat} {z0 z1 z2 z3:Value} (hG:w.heap.size≤G) (hb:Below w.heap.size w wr) (hq:wr.heap[G]?=some (.cells #[z0,z1,z2,z3] 51 (0,0))) (hv:TreeVP (fun b=>G<b) wr (.node k nm p ts) (.agg #[.int .i64 k,S nm,.int .i64 p,.slice A ts.length c])) :
  ∃s1 s2 s3 s4,wr.setCell ⟨G,0,none⟩ (.int .i64 k)=s1∧s1.setCell ⟨G,1,none⟩ (S nm)=s2∧s2.setCell ⟨G,2,none⟩ (.int .i64 p)=s3∧s3.setCell ⟨G,3,none⟩ (.slice A ts.length c)=s4 ∧
   (wr.cell? ⟨G,0,none⟩=some z0∧s1.cell? ⟨G,1,none⟩=some z1∧s2.cell? ⟨G,2,none⟩=some z2∧s3.cell? ⟨G,3,none⟩=some z3) ∧
   (wr.frozen? ⟨G,0,none⟩=false∧s1.frozen? ⟨G,1,none⟩=false∧s2.frozen? ⟨G,2,none⟩=false∧s3.frozen? ⟨G,3,none⟩=false) ∧
   s4.heap[G]?=some (.cells #[.int .i64 k,S nm,.int .i64 p,.slice A ts.length c] 51 (0,0))∧Oth G wr s4∧Hid ((∃v',Ending.returned (.agg #[.int .i64 k,S nm,.int .i64 p,.slice A ts.length c])=.returned v'∧TreeVP (fun b=>w.heap.size≤b) s4 (.node k nm p ts) v')∧Below w.heap.size w s4):=by
 obtain ⟨s1,s2,s3,s4,g1,g2,g3,g4,hy,hf,hq4,hot⟩:=tput4 hq (.int .i64 k) (S nm) (.int .i64 p) (.slice A ts.length c)
 refine ⟨s1,s2,s3,s4,g1,g2,g3,g4,hy,hf,hq4,hot,zH ⟨⟨_,rfl,?_⟩,Oth.below hb hot hG hb.size⟩⟩
 exact hv.keep (fun j hj hlt=>hot.block j hlt (fun e=>by have e:=zO e;have hj:G<j:=hj;omega)) hot.size (fun j _ hj=>by have hj:G<j:=hj;show w.heap.size≤j;omega)
theorem cls_at:∀ (ts:List Lfc.Raw),Lfc.Raw.cls ts=true→∀k (h:k<ts.length),ts[k].cl=true
 | [],_,k,h=>by cases h
 | a :: r,h,k,hk=>by
  rw [Lfc.Raw.cls,Bool.and_eq_true] at h
  cases k with
  | zero=>exact h.1
  | succ k=>exact cls_at r h.2 k (by simpa using hk)
theorem mMove_cl (m:Nat) (hmm:m≤100000):∀ (t:Lfc.Raw) (v:Value) (d fr:Int) (w:World),t.size≤m→t.cl=true→TreeV w t v →
  Calls Tryz.prog 79 #[v,.int .i64 d,.int .i64 fr] w fun e w'=>(∃v',e=.returned v'∧TreeVP (fun b=>w.heap.size≤b) w' t v')∧Below w.heap.size w w':=by
 induction m with
 | zero=>intro t v d fr w h;have:=t.size_pos;omega
 | succ m ih0 =>
  intro t v d fr w hm hcl hv
  obtain ⟨kd,nm,ps,ts⟩:=t
  have hnl:=hv.name_le
  obtain ⟨A0,c0,rfl,hc,hA⟩:=hv.open_
  simp only [Lfc.Raw.size] at hm
  simp only [Lfc.Raw.cl,Bool.and_eq_true,decide_eq_true_eq] at hcl
  obtain ⟨⟨⟨rfl,_⟩,rfl⟩,hcs⟩:=hcl
  have hlen:=Lfc.Raw.sizes_len ts
  have IH:=zH (ih0 (by omega))
  have HCS:=zH (cls_at ts hcs)
  obtain ⟨w1,hw1⟩:∃w1,w.alloc (.cells #[.int .i64 4,S nm,.int .i64 0,.slice A0 ts.length c0] 51)=w1:=⟨_,rfl⟩
  obtain ⟨w2,hw2⟩:∃w2,w1.alloc (.cells #[.int .i64 0,S [],.int .i64 0,.slice none 0 0] 51)=w2:=⟨_,rfl⟩
  obtain ⟨w3,hw3⟩:∃w3,w2.alloc (.cells #[.int .i64 4,S nm,.int .i64 0,.slice none 0 0] 51)=w3:=⟨_,rfl⟩
  have b1:=zG hw1
  have b2:=zG hw2
  have b3:=zG hw3
  have q1:=zQ hw1
  have q2:=zQ hw2
  have q3:=zQ hw3
  have l1:=zL q1
  have l2:=zL q2
  have l3:=zL q3
  have b12:Below w.heap.size w w2:=b1.trans (b2.mono (by omega))
  have B12:=zH b12
  have Q1:=zH ((b2.block _ l1).trans q1)
  have Q2:=zH q2
  have HA:=zH (hA.below b12)
  have I0:Hid (SbI w2 w2.heap.size (w2.heap.size+1) 4 nm 0 (ts.take 0) none 0 [] w3):=zH (by rw [List.take_zero];exact SbI.start q3 b3)
  have H3:=zH hw3
  have hl02:w.heap.size<w2.heap.size:=by omega
  obtain ⟨x0,x1,x2,x3⟩:=cells4t ((b3.block _ (by omega)).trans Q1.out)
  clear hA hv ih0 b1 b2 b3 q1 q2 q3 hw3 b12 hcs
  go_enter Tryz.func79,Tryz.ntmps79
  go_upto_region 1 with fail
  clear hw1 hw2
  obtain ⟨y0,y1,y2,y3⟩:=cells4t Q1.out
  go_upto_region 2 with fail
  rw [H3.out]
  clear y0 y1 y2 y3 H3
  go_wp2_with fail
  go_loopw [8] (fun i wr=>∃ (k:Nat) (A:Option Addr) (c:Nat) (xs:List Value),k≤ts.length∧i=.int .i64 k∧Hid (SbI w2 w2.heap.size (w2.heap.size+1) 4 nm 0 (ts.take k) A c xs wr)) (fun i _=>ts.length-(intOf i).toNat)
  case atStart=>exact ⟨0,none,0,[],Nat.zero_le _,rfl,I0⟩
  clear I0 x0 x1 x2 x3
  obtain ⟨k,A,c,xs,hk,rfl,HI⟩:=hrel
  have hol:(ts.take k).length=k:=by rw [List.length_take];omega
  have lR:=zL HI.out.r
  have hsz:=HI.out.size
  obtain ⟨x0,x1,x2,x3⟩:=cells4t ((HI.out.below.block _ hl02).trans Q1.out)
  by_cases hlt:k<ts.length
  ·obtain ⟨b,o,k9,n9,p9,us,B,c1,rfl,hb,ht,d0,d1,d2,d3,hcu,hB,hT⟩:=HA.out.at_ hlt
   have HTK:Hid (ts.take (k+1)=ts.take k++[.node k9 n9 p9 us]):=zH (by rw [List.take_succ_eq_append_getElem hlt,ht])
   have hcl:=HCS.out k hlt
   have hmem:=Lfc.Raw.sizes_mem ts ts[k] (List.getElem_mem _)
   rw [ht] at hcl hmem hT
   have HCL:=zH hcl
   have HSZ:Hid ((Lfc.Raw.node k9 n9 p9 us).size≤m):=zH (by omega)
   have HT:Hid (TreeV wr (.node k9 n9 p9 us) (.agg #[.int .i64 k9,S n9,.int .i64 p9,.slice B us.length c1])):=zH (hT.below HI.out.below)
   have SC:Hid (∀W,Below w2.heap.size w2 W→((W.cell? ⟨w.heap.size,0,none⟩=some (.int .i64 4)∧W.cell? ⟨w.heap.size,1,none⟩=some (S nm)∧W.cell? ⟨w.heap.size,2,none⟩=some (.int .i64 0)∧W.cell? ⟨w.heap.size,3,none⟩=some (.slice (some ⟨b,o,none⟩) ts.length c0))∧(W.cell? ⟨b,o+k*4,none⟩=some (.int .i64 k9)∧W.cell? ⟨b,o+k*4+1,none⟩=some (S n9)∧W.cell? ⟨b,o+k*4+2,none⟩=some (.int .i64 p9)∧W.cell? ⟨b,o+k*4+3,none⟩=some (.slice B us.length c1)))):=zH (fun W hW=>⟨cells4t ((hW.block _ hl02).trans Q1.out),by
    have hc:=fun j=>hW.cell (p:=⟨b,j,none⟩) (by have:=hb;show b<w2.heap.size;omega)
    exact ⟨(hc _).trans d0,(hc _).trans d1,(hc _).trans d2,(hc _).trans d3⟩⟩)
   have hHI:=HI.out
   have HS:=zH hHI
   have hr:=hHI.r
   have how:=hHI.own
   rw [hol] at hr how
   have HR:=zH hr
   have HOWN:=zH how
   have hT0:(Value.slice A k c).ownBlock=some 0→False:=fun e=>by have:=(how.lt _ e).1;omega
   have hlm:k+1≤maxLen:=by unfold maxLen;omega
   have hl56:(k+1)*56≤140737488355328:=by omega
   have hi0:(0:Int)≤(k:Int):=Int.natCast_nonneg _
   have hi1:(k:Int)<(ts.length:Int):=by omega
   have B0:Below wr.heap.size wr wr.drew:=(zB _ _).drew
   clear hHI hr how hcl ht hT hB d0 d1 d2 d3
   go_upto_region 7 with fail
   clear x0 x1 x2 x3
   refine wp_region_held_drew (S:=fun W=>((W.cell? ⟨w.heap.size,0,none⟩=some (.int .i64 4)∧W.cell? ⟨w.heap.size,1,none⟩=some (S nm)∧W.cell? ⟨w.heap.size,2,none⟩=some (.int .i64 0)∧W.cell? ⟨w.heap.size,3,none⟩=some (.slice (some ⟨b,o,none⟩) ts.length c0))∧(W.cell? ⟨b,o+k*4,none⟩=some (.int .i64 k9)∧W.cell? ⟨b,o+k*4+1,none⟩=some (S n9)∧W.cell? ⟨b,o+k*4+2,none⟩=some (.int .i64 p9)∧W.cell? ⟨b,o+k*4+3,none⟩=some (.slice B us.length c1)))) (by kernel_rfl) ?_ (fun hHeld=>?_)
   ·exact SC.out _ (belowR B0 HI.out.below (by omega))
   obtain ⟨wz,hwz⟩:∃wz,wr.drew=wz:=⟨_,rfl⟩
   rw [hwz] at B0 hHeld ⊢
   clear hwz
   refine tk 0 ?_
   refine tk 2 ?_
   refine tk 3 ?_
   refine tk 4 ?_
   refine tk 5 ?_
   refine tk 6 ?_
   refine tk 7 ?_
   refine tk 8 ?_
   refine tk 9 ?_
   refine tk 10 ?_
   refine rd2 1 11 (fun K hK=>?_) (fun K hK=>?_)
   ·have z3:wz.cell? ⟨w2.heap.size,3,none⟩=some (.slice A k c):=zC ((B0.block _ lR).trans HR.out) 3
    go_simp
    refine hK.out _ _ (SC.out _ (belowR B0 HI.out.below (by omega))) (fun hHeld=>nrm ?_)
    clear hK K
    clear z3
    refine rd1 11 (fun K hK=>?_)
    go_simp
    go_at_call 76
    refine (sUnderX_any _ _ _ _ _ _ _ _ (by decide)).mono ?_
    rintro e wA2 ⟨rfl,nb2⟩
    have B2:=B0.trans (nb2.mono B0.size)
    refine hK.out _ _ (SC.out _ (belowR B2 HI.out.below (by omega))) (fun hHeld=>nrm ?_)
    clear hK K
    refine tk 12 ?_
    refine rd1 13 (fun K hK=>?_)
    go_simp
    go_at_call 79
    refine (IH.out _ _ _ _ wA2 HSZ.out HCL.out (HT.out.below B2)).mono ?_
    rintro e wA3 ⟨⟨v9,rfl,hv9⟩,nb3⟩
    obtain ⟨A9,c9,rfl,hp9⟩:=hv9.openT
    have B3:=B2.trans (nb3.mono B2.size)
    have HP9:=zH (TreeP.keep (q':=fun b=>wr.heap.size≤b) (fun _ _ _=>rfl) (zN _) (fun b _ hb=>Nat.le_trans B2.size hb) _ _ _ _ _ hp9)
    clear hv9 hp9
    refine hK.out _ _ (SC.out _ (belowR B3 HI.out.below (by omega))) (fun hHeld=>nrm ?_)
    clear hK K
    refine rd1 14 (fun K hK=>?_)
    have B4:=B3.alloc B3.size (.cells #[.int .i64 k9,S n9,.int .i64 p9,.slice A9 us.length c9] 51)
    go_simp
    refine hK.out _ _ (SC.out _ (belowR B4 HI.out.below (by omega))) (fun hHeld=>nrm ?_)
    clear hK K
    refine rd1 15 (fun K hK=>?_)
    refine apT [.int .i64 k9,S n9,.int .i64 p9,.slice A9 us.length c9] (HOWN.out.kept (Oth.of_below (T:=0) B4) (Or.inr hT0)) (fun j u h=>ocells_new wA3 _ rfl [.int .i64 k9,S n9,.int .i64 p9,.slice A9 us.length c9] 51 j u h) oneCellT hlm hl56 (Nat.le_trans HI.out.size B4.size) ?_
    intro A10 c10 w10 hown10 hg10 hloc10
    obtain ⟨q10,b10,hfin⟩:=SbI.step HS.out (by omega) (by omega) (by omega) B3 HP9.out (by rw [hol];exact hown10) (by rw [hol];exact hg10) (by rw [hol];exact oalloc_loc hloc10)
    have hnx:=hfin A10 c10 (by rw [hol])
    rw [hol] at q10
    refine hK.out _ _ (SC.out _ b10) (fun hHeld=>nrm ?_)
    clear hK K
    refine tk 16 ?_
    refine rd1 17 (fun K hK=>?_)
    have z3:w10.cell? ⟨w2.heap.size,3,none⟩=some (.slice A k c):=zC q10 3
    have f3:=zF q10 3
    have HN:=zH hnx
    clear hfin hown10 hg10 hloc10
    go_simp
    refine hK.out _ _ (SC.out _ hnx.below) (fun hHeld=>nrm ?_)
    clear hK K
    clear z3 f3 q10 hnx
    refine wpAnyH_done (by kernel_rfl) ?_ _
    go_wp2_with fail
    go_roundw
    case rel=>exact ⟨k+1,A10,c10,_,by omega,by go_num,by rw [HTK.out];exact HN⟩
    case measure=>simp [intOf];omega
   go_simp
   go_at_call 76
   refine (sUnderX_any _ _ _ _ _ _ _ _ (by decide)).mono ?_
   rintro e wA1 ⟨rfl,nb1⟩
   have B1:=B0.trans (nb1.mono B0.size)
   refine hK.out _ _ (SC.out _ (belowR B1 HI.out.below (by omega))) (fun hHeld=>nrm ?_)
   clear hK K
   refine tk 12 ?_
   refine rd2 1 13 (fun K hK=>?_) (fun K hK=>?_)
   ·have z3:wA1.cell? ⟨w2.heap.size,3,none⟩=some (.slice A k c):=zC ((B1.block _ lR).trans HR.out) 3
    go_simp
    refine hK.out _ _ (SC.out _ (belowR B1 HI.out.below (by omega))) (fun hHeld=>nrm ?_)
    clear hK K
    clear z3
    refine rd1 13 (fun K hK=>?_)
    go_simp
    go_at_call 79
    refine (IH.out _ _ _ _ wA1 HSZ.out HCL.out (HT.out.below B1)).mono ?_
    rintro e wA3 ⟨⟨v9,rfl,hv9⟩,nb3⟩
    obtain ⟨A9,c9,rfl,hp9⟩:=hv9.openT
    have B3:=B1.trans (nb3.mono B1.size)
    have HP9:=zH (TreeP.keep (q':=fun b=>wr.heap.size≤b) (fun _ _ _=>rfl) (zN _) (fun b _ hb=>Nat.le_trans B1.size hb) _ _ _ _ _ hp9)
    clear hv9 hp9
    refine hK.out _ _ (SC.out _ (belowR B3 HI.out.below (by omega))) (fun hHeld=>nrm ?_)
    clear hK K
    refine rd1 14 (fun K hK=>?_)
    have B4:=B3.alloc B3.size (.cells #[.int .i64 k9,S n9,.int .i64 p9,.slice A9 us.length c9] 51)
    go_simp
    refine hK.out _ _ (SC.out _ (belowR B4 HI.out.below (by omega))) (fun hHeld=>nrm ?_)
    clear hK K
    refine rd1 15 (fun K hK=>?_)
    refine apT [.int .i64 k9,S n9,.int .i64 p9,.slice A9 us.length c9] (HOWN.out.kept (Oth.of_below (T:=0) B4) (Or.inr hT0)) (fun j u h=>ocells_new wA3 _ rfl [.int .i64 k9,S n9,.int .i64 p9,.slice A9 us.length c9] 51 j u h) oneCellT hlm hl56 (Nat.le_trans HI.out.size B4.size) ?_
    intro A10 c10 w10 hown10 hg10 hloc10
    obtain ⟨q10,b10,hfin⟩:=SbI.step HS.out (by omega) (by omega) (by omega) B3 HP9.out (by rw [hol];exact hown10) (by rw [hol];exact hg10) (by rw [hol];exact oalloc_loc hloc10)
    have hnx:=hfin A10 c10 (by rw [hol])
    rw [hol] at q10
    refine hK.out _ _ (SC.out _ b10) (fun hHeld=>nrm ?_)
    clear hK K
    refine tk 16 ?_
    refine rd1 17 (fun K hK=>?_)
    have z3:w10.cell? ⟨w2.heap.size,3,none⟩=some (.slice A k c):=zC q10 3
    have f3:=zF q10 3
    have HN:=zH hnx
    clear hfin hown10 hg10 hloc10
    go_simp
    refine hK.out _ _ (SC.out _ hnx.below) (fun hHeld=>nrm ?_)
    clear hK K
    clear z3 f3 q10 hnx
    refine wpAnyH_done (by kernel_rfl) ?_ _
    go_wp2_with fail
    go_roundw
    case rel=>exact ⟨k+1,A10,c10,_,by omega,by go_num,by rw [HTK.out];exact HN⟩
    case measure=>simp [intOf];omega
   go_simp
   go_at_call 79
   refine (IH.out _ _ _ _ wA1 HSZ.out HCL.out (HT.out.below B1)).mono ?_
   rintro e wA2 ⟨⟨v9,rfl,hv9⟩,nb2⟩
   obtain ⟨A9,c9,rfl,hp9⟩:=hv9.openT
   have B2:=B1.trans (nb2.mono B1.size)
   have HP9:=zH (TreeP.keep (q':=fun b=>wr.heap.size≤b) (fun _ _ _=>rfl) (zN _) (fun b _ hb=>Nat.le_trans B1.size hb) _ _ _ _ _ hp9)
   clear hv9 hp9
   refine hK.out _ _ (SC.out _ (belowR B2 HI.out.below (by omega))) (fun hHeld=>nrm ?_)
   clear hK K
   refine rd2 1 14 (fun K hK=>?_) (fun K hK=>?_)
   ·have z3:wA2.cell? ⟨w2.heap.size,3,none⟩=some (.slice A k c):=zC ((B2.block _ lR).trans HR.out) 3
    go_simp
    refine hK.out _ _ (SC.out _ (belowR B2 HI.out.below (by omega))) (fun hHeld=>nrm ?_)
    clear hK K
    clear z3
    refine rd1 14 (fun K hK=>?_)
    have B4:=B2.alloc B2.size (.cells #[.int .i64 k9,S n9,.int .i64 p9,.slice A9 us.length c9] 51)
    go_simp
    refine hK.out _ _ (SC.out _ (belowR B4 HI.out.below (by omega))) (fun hHeld=>nrm ?_)
    clear hK K
    refine rd1 15 (fun K hK=>?_)
    refine apT [.int .i64 k9,S n9,.int .i64 p9,.slice A9 us.length c9] (HOWN.out.kept (Oth.of_below (T:=0) B4) (Or.inr hT0)) (fun j u h=>ocells_new wA2 _ rfl [.int .i64 k9,S n9,.int .i64 p9,.slice A9 us.length c9] 51 j u h) oneCellT hlm hl56 (Nat.le_trans HI.out.size B4.size) ?_
    intro A10 c10 w10 hown10 hg10 hloc10
    obtain ⟨q10,b10,hfin⟩:=SbI.step HS.out (by omega) (by omega) (by omega) B2 HP9.out (by rw [hol];exact hown10) (by rw [hol];exact hg10) (by rw [hol];exact oalloc_loc hloc10)
    have hnx:=hfin A10 c10 (by rw [hol])
    rw [hol] at q10
    refine hK.out _ _ (SC.out _ b10) (fun hHeld=>nrm ?_)
    clear hK K
    refine tk 16 ?_
    refine rd1 17 (fun K hK=>?_)
    have z3:w10.cell? ⟨w2.heap.size,3,none⟩=some (.slice A k c):=zC q10 3
    have f3:=zF q10 3
    have HN:=zH hnx
    clear hfin hown10 hg10 hloc10
    go_simp
    refine hK.out _ _ (SC.out _ hnx.below) (fun hHeld=>nrm ?_)
    clear hK K
    clear z3 f3 q10 hnx
    refine wpAnyH_done (by kernel_rfl) ?_ _
    go_wp2_with fail
    go_roundw
    case rel=>exact ⟨k+1,A10,c10,_,by omega,by go_num,by rw [HTK.out];exact HN⟩
    case measure=>simp [intOf];omega
   have B3:=B2.alloc B2.size (.cells #[.int .i64 k9,S n9,.int .i64 p9,.slice A9 us.length c9] 51)
   go_simp
   refine hK.out _ _ (SC.out _ (belowR B3 HI.out.below (by omega))) (fun hHeld=>nrm ?_)
   clear hK K
   refine rd1 1 (fun K hK=>?_)
   have z3:(wA2.alloc (.cells #[.int .i64 k9,S n9,.int .i64 p9,.slice A9 us.length c9] 51)).cell? ⟨w2.heap.size,3,none⟩=some (.slice A k c):=zC ((B3.block _ lR).trans HR.out) 3
   go_simp
   refine hK.out _ _ (SC.out _ (belowR B3 HI.out.below (by omega))) (fun hHeld=>nrm ?_)
   clear hK K
   clear z3
   refine rd1 15 (fun K hK=>?_)
   refine apT [.int .i64 k9,S n9,.int .i64 p9,.slice A9 us.length c9] (HOWN.out.kept (Oth.of_below (T:=0) B3) (Or.inr hT0)) (fun j u h=>ocells_new wA2 _ rfl [.int .i64 k9,S n9,.int .i64 p9,.slice A9 us.length c9] 51 j u h) oneCellT hlm hl56 (Nat.le_trans HI.out.size B3.size) ?_
   intro A10 c10 w10 hown10 hg10 hloc10
   obtain ⟨q10,b10,hfin⟩:=SbI.step HS.out (by omega) (by omega) (by omega) B2 HP9.out (by rw [hol];exact hown10) (by rw [hol];exact hg10) (by rw [hol];exact oalloc_loc hloc10)
   have hnx:=hfin A10 c10 (by rw [hol])
   rw [hol] at q10
   refine hK.out _ _ (SC.out _ b10) (fun hHeld=>nrm ?_)
   clear hK K
   refine tk 16 ?_
   refine rd1 17 (fun K hK=>?_)
   have z3:w10.cell? ⟨w2.heap.size,3,none⟩=some (.slice A k c):=zC q10 3
   have f3:=zF q10 3
   have HN:=zH hnx
   clear hfin hown10 hg10 hloc10
   go_simp
   refine hK.out _ _ (SC.out _ hnx.below) (fun hHeld=>nrm ?_)
   clear hK K
   clear z3 f3 q10 hnx
   refine wpAnyH_done (by kernel_rfl) ?_ _
   go_wp2_with fail
   go_roundw
   case rel=>exact ⟨k+1,A10,c10,_,by omega,by go_num,by rw [HTK.out];exact HN⟩
   case measure=>simp [intOf];omega
  obtain rfl:k=ts.length:=by omega
  rw [List.take_length] at HI
  have hpt:=trm_parts (lo:=w2.heap.size+1) (zN _) HI.out.own HI.out.row
  have hv4:TreeVP (fun b=>w1.heap.size<b) wr (.node 4 nm 0 ts) (.agg #[.int .i64 4,S nm,.int .i64 0,.slice A ts.length c]):=TreeVP.mk hnl hpt.2 (hpt.1.keep (fun _ _ _=>rfl) (zN _) (fun b _ hb=>by have hb:w2.heap.size+1≤b:=hb;show w1.heap.size<b;omega))
  have hq4:=(HI.out.below.block _ l2).trans Q2.out
  obtain ⟨u0,u1,u2,u3⟩:=cells4t HI.out.r
  obtain ⟨s1,s2,s3,s4,g1,g2,g3,g4,⟨p0,p1,p2,p3⟩,⟨f0,f1,f2,f3⟩,hq,hot,HZ⟩:=term_fin (w:=w) (by omega) (B12.out.trans (HI.out.below.mono (by omega))) hq4 hv4
  have HQ:=zH hq
  clear hq hot hpt HI hq4 hv4
  go_wp2_with fail
  refine bodyPost_ret (results_term rfl _ _ _ _ _ _ _ rfl HQ.out) rfl ?_
  exact HZ.out
theorem mMove_vv (i d:Nat) (hi:i≤1000000) (hd:d≤1000000) (A0:Option Addr) (c0:Nat) (w:World) :
  Calls Tryz.prog 79 #[.agg #[.int .i64 5,S [],.int .i64 (i:Int),.slice A0 0 c0],.int .i64 (d:Int),.int .i64 0] w fun e w'=>(∃v',e=.returned v'∧TreeVP (fun b=>w.heap.size≤b) w' (Lfc.vv ((i:Int)+(d:Int))) v')∧Below w.heap.size w w':=by
 obtain ⟨w1,hw1⟩:∃w1,w.alloc (.cells #[.int .i64 5,S [],.int .i64 (i:Int),.slice A0 0 c0] 51)=w1:=⟨_,rfl⟩
 obtain ⟨w2,hw2⟩:∃w2,w1.alloc (.cells #[.int .i64 0,S [],.int .i64 0,.slice none 0 0] 51)=w2:=⟨_,rfl⟩
 obtain ⟨w3,hw3⟩:∃w3,w2.alloc (.cells #[.int .i64 5,S [],.int .i64 (i:Int),.slice none 0 0] 51)=w3:=⟨_,rfl⟩
 have b1:=zG hw1
 have b2:=zG hw2
 have b3:=zG hw3
 have q1:=zQ hw1
 have q2:=zQ hw2
 have q3:=zQ hw3
 have l1:=zL q1
 have l2:=zL q2
 have l3:=zL q3
 have b12:Below w.heap.size w w2:=b1.trans (b2.mono (by omega))
 have Q1:=zH ((b2.block _ l1).trans q1)
 have H3:=zH hw3
 obtain ⟨w4,hw4⟩:∃w4,w3.setCell ⟨w2.heap.size,2,none⟩ (.int .i64 ((i:Int)+(d:Int)))=w4:=⟨_,rfl⟩
 have o4:Oth w2.heap.size w3 w4:=by rw [←hw4];exact Oth.set _ _
 have q4:w4.heap[w2.heap.size]?=some (.cells #[.int .i64 5,S [],.int .i64 ((i:Int)+(d:Int)),.slice none 0 0] 51 (0,0)):=by rw [←hw4];simp [World.setCell,Array.getElem?_modify,q3]
 have q4b:w4.heap[w.heap.size]?=some (.cells #[.int .i64 5,S [],.int .i64 (i:Int),.slice A0 0 c0] 51 (0,0)):=o4.heap ((b3.block _ (by omega)).trans Q1.out) (by omega)
 have q4r:w4.heap[w1.heap.size]?=some (.cells #[.int .i64 0,S [],.int .i64 0,.slice none 0 0] 51 (0,0)):=o4.heap ((b3.block _ l2).trans q2) (by omega)
 have Q4:=zH q4
 have Q4B:=zH q4b
 have Q3:=zH q3
 have Q3B:=zH ((b3.block _ (by omega)).trans Q1.out)
 have H4:=zH hw4
 have hv4:TreeVP (fun b=>w1.heap.size<b) w4 (.node 5 [] ((i:Int)+(d:Int)) []) (.agg #[.int .i64 5,S [],.int .i64 ((i:Int)+(d:Int)),.slice none ([]:List Lfc.Raw).length 0]):=TreeVP.mk (by decide) (zN _) (fun h=>absurd rfl h)
 have HFIN:=zH (term_fin (w:=w) (by omega) (Oth.below (b12.trans (b3.mono (by omega))) o4 (by omega) (by omega)) q4r hv4)
 have hwr:IntKind.i64.wrap ((i:Int)+(d:Int))=(i:Int)+(d:Int):=IntWalk.i64_in _ (by omega)
 have hge:decide ((i:Int)≥0)=true:=by rw [decide_eq_true_eq];omega
 clear b1 b2 b3 q1 q2 q3 hw3 hw4 b12 o4 q4 q4b q4r hv4
 go_enter Tryz.func79,Tryz.ntmps79
 go_upto_region 1 with fail
 clear hw1 hw2
 obtain ⟨y0,y1,y2,y3⟩:=cells4t Q1.out
 go_upto_region 2 with fail
 rw [H3.out]
 clear y0 y1 y2 y3 H3
 obtain ⟨y0,y1,y2,y3⟩:=cells4t Q3B.out
 have z2:=(zC Q3.out 2:w3.cell? ⟨w2.heap.size,2,none⟩=some (.int .i64 (i:Int)))
 have f2:=zF Q3.out 2
 go_upto_region 4 with fail
 rw [H4.out]
 clear y0 y1 y2 y3 z2 f2 H4
 go_wp2_with fail
 go_loopw [8] (fun s wr=>s=.int .i64 0∧wr=w4) (fun _ _=>0)
 case atStart=>exact ⟨rfl,rfl⟩
 obtain ⟨rfl,rfl⟩:=hrel
 obtain ⟨x0,x1,x2,x3⟩:=cells4t Q4B.out
 obtain ⟨u0,u1,u2,u3⟩:=cells4t Q4.out
 obtain ⟨s1,s2,s3,s4,g1,g2,g3,g4,⟨p0,p1,p2,p3⟩,⟨f0,f1,f2,f3⟩,hq,hot,HZ⟩:=HFIN.out
 simp only [List.length_nil] at g4 hq
 have HQ:=zH hq
 clear hq hot HFIN
 go_wp2_with fail
 refine bodyPost_ret (results_term rfl _ _ _ _ _ _ _ rfl HQ.out) rfl ?_
 exact HZ.out
end Go.Proofs.YtadjpadieljjlaaGreat
