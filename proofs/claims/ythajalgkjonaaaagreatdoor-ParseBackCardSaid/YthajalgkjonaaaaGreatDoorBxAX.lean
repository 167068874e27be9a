/- Parts of the proof that no input makes the law false: PaMi, PaMk. -/
import Derived.Test.YthajalgkjonaaaaGreatDoorBxAW
set_option linter.unusedVariables false
set_option linter.unusedSimpArgs false
set_option maxRecDepth 100000
set_option maxHeartbeats 32000000
namespace Go.Proofs.YthajalgkjonaaaaGreatDoor
open Go.RowKit Go.Maps _root_.Lfc
structure MkS(w0 W:World)(T F:Nat)(xs:List (Itm × IS))(A:Option Addr)(c:Nat)(ops:List (List UInt8))(B:Option Addr)(d:Nat):Prop where
 tape:TapeAt T W
 oth:Oth T w0 W
 fam:W.heap[F]?=some (.cells #[S [110,97,116],S [112,108,117,115],S [102]] 9 (0,0))
 own:W.ownsRow (F+1) 42 22 (.slice A xs.length c) xs.length (itRow xs)
 its:∀y∈xs,Stays (fun b=>F≤b∧some b≠(Value.slice A xs.length c).ownBlock∧some b≠(Value.slice B ops.length d).ownBlock) W fun V=>ItV V y.1 y.2
 qwn:W.ownsRow (F+1) 9 1 (.slice B ops.length d) ops.length (ops.map S)
 made:∀y∈xs,MadeI y.1
 wf:wfIts [] (xs.map Prod.fst)=0
 opn:(opsOf (xs.map Prod.fst)).map (·.name)=ops
structure NewI(wr wx:World)(T F K:Nat)(x:Itm)(s:IS):Prop where
 tape:TapeAt T wx
 oth:Oth T wr wx
 box:wx.heap[K]?=some (.cells (itCells x s) 42 (0,0))
 itx:Stays (fun b=>(b=F∨wr.heap.size≤b)∧b≠K) wx fun V=>ItV V x s
 made:MadeI x
structure ArmS(w0 wx:World)(T F K:Nat)(xs:List (Itm × IS))(A:Option Addr)(c:Nat)(ops:List (List UInt8))(B:Option Addr)(d:Nat)(x:Itm)(s:IS):Prop where
 tape:TapeAt T wx
 oth:Oth T w0 wx
 fam:wx.heap[F]?=some (.cells #[S [110,97,116],S [112,108,117,115],S [102]] 9 (0,0))
 own:wx.ownsRow (F+1) 42 22 (.slice A xs.length c) xs.length (itRow xs)
 its:∀y∈xs,Stays (fun b=>F≤b∧some b≠(Value.slice A xs.length c).ownBlock∧some b≠(Value.slice B ops.length d).ownBlock) wx fun V=>ItV V y.1 y.2
 qwn:wx.ownsRow (F+1) 9 1 (.slice B ops.length d) ops.length (ops.map S)
 made:∀y∈xs,MadeI y.1
 box:wx.heap[K]?=some (.cells (itCells x s) 42 (0,0))
 itx:Stays (fun b=>F≤b∧b≠K∧some b≠(Value.slice A xs.length c).ownBlock∧some b≠(Value.slice B ops.length d).ownBlock) wx fun V=>ItV V x s
 madex:MadeI x
 wf:wfIts [] (xs.map Prod.fst++[x])=0
 opn:(opsOf (xs.map Prod.fst++[x])).map (·.name)=ops
theorem NewI.arm{w0 wr wx:World}{T F K:Nat}{xs:List (Itm × IS)}{A:Option Addr}{c:Nat}{ops:List (List UInt8)}{B:Option Addr}{d:Nat}{x:Itm}{s:IS}(h:NewI wr wx T F K x s)(hI:MkS w0 wr T F xs A c ops B d)(hTF:T<F)(hk:x.kind≠3):ArmS w0 wx T F K xs A c ops B d x s:=by
 have hl:∀b,(Value.slice A xs.length c).ownBlock=some b→F+1≤b∧b<wr.heap.size:=fun b hb=>hI.own.lt b hb;have hq:∀b,(Value.slice B ops.length d).ownBlock=some b→F+1≤b∧b<wr.heap.size:=fun b hb=>hI.qwn.lt b hb;refine⟨h.tape,hI.oth.trans h.oth,h.oth.heap hI.fam (by omega),hI.own.kept h.oth (Or.inr fun e=>by have:=(hl T e).1;omega),fun y hy=>?_,hI.qwn.kept h.oth (Or.inr fun e=>by have:=(hq T e).1;omega),hI.made,h.box,?_,h.made,?_,?_⟩
 ·exact(hI.its y hy).to h.oth.size (fun b hb hlt=>h.oth.block b hlt (fun e=>by have:=zO e;have:=hb.1;omega)) fun b _ hb=>hb
 ·refine h.itx.to (zN _) (fun _ _ _=>rfl) fun b _ hb=>?_;refine⟨by have:=zL hI.fam;omega,hb.2,fun e=>?_,fun e=>?_⟩
  ·have:=hl b e.symm;omega
  have:=hq b e.symm;omega
 ·refine wfIts_snoc _ [] x hI.wf (fun _ h=>by cases h) h.made.form h.made.trees fun e=>absurd e hk
 rw[←hI.opn];simp[opsOf,hk]
theorem TapeAt.lowM{T B:Nat}{W w':World}(h:TapeAt T W)(hT:T<B)(hb:Below B W w'):TapeAt T w':=by
 obtain⟨wb,wo,wc,h1,h2,h3,h4⟩:=h.words;obtain⟨A,n,c,i,ht,hi,hn,hc⟩:=h.t;refine⟨⟨A,n,c,i,(hb.block T hT).trans ht,hi,hn,fun hp=>?_⟩,⟨wb,wo,wc,(hb.cell (p:=⟨_,0,none⟩) (by simp only;omega)).trans h1,h2,h3,fun k hk=>(hb.cell (p:=⟨wb,wo+k,none⟩) (by simp only;omega)).trans (h4 k hk)⟩⟩;obtain⟨b,o,hA,hbT,hx⟩:=hc hp;refine⟨b,o,hA,hbT,fun k hk=>?_⟩;obtain⟨x,hx⟩:=hx k hk;exact⟨x,(hb.cell (p:=⟨b,o+k,none⟩) (by simp only;omega)).trans hx⟩
theorem rows_ne{w:World}{base base':Nat}{e e':TypeId}{sz sz' n n' c c':Nat}{A A':Option Addr}{xs xs':List Value}(h:w.ownsRow base e sz (.slice A n c) n xs)(h':w.ownsRow base' e' sz' (.slice A' n' c') n' xs')(hne:e≠e'):∀b,(Value.slice A n c).ownBlock=some b→(Value.slice A' n' c').ownBlock≠some b:=fun b hb hb'=>by
 rcases h.2 with⟨h1,h2⟩ | ⟨g,cap,cur,hv,hbg,hg,_⟩
 ·rw[h1] at hb;cases hb
 rcases h'.2 with⟨h3,h4⟩ | ⟨g',cap',cur',hv',hbg',hg',_⟩
 ·rw[h3] at hb';cases hb'
 rw[hv] at hb;rw[hv'] at hb';have e1:=zO hb;have e2:=zO hb';simp only at e1 e2;rw[e1,←e2,hg'] at hg;injection hg with hg;injection hg with _ h5 _;exact hne h5.symm
theorem rows_stay{w w':World}{base:Nat}{e:TypeId}{sz n c:Nat}{A:Option Addr}{xs:List Value}(h:w.ownsRow base e sz (.slice A n c) n xs)(hk:∀b,(Value.slice A n c).ownBlock=some b→b<w.heap.size→w'.heap[b]?=w.heap[b]?):w'.ownsRow base e sz (.slice A n c) n xs:=by
 refine⟨h.1,?_⟩;rcases h.2 with e | ⟨g,cap,cur,hv,hbg,hg,r⟩
 ·exact .inl e
 exact .inr ⟨g,cap,cur,hv,hbg,(hk g (by rw[hv];rfl) (zL hg)).trans hg,r⟩
theorem ArmS.push{w0 wc w6:World}{T F K:Nat}{xs:List (Itm × IS)}{A A6:Option Addr}{c c6:Nat}{ops:List (List UInt8)}{B:Option Addr}{d:Nat}{x:Itm}{s:IS}{o:Obj}(h:ArmS w0 wc T F K xs A c ops B d x s)(hTF:T<F)(h0:w0.heap.size=F+1)
  (hown:w6.ownsRow (F+1) 42 22 (.slice A6 (xs.length+1) c6) (xs.length+1) (itRow xs++(itCells x s).toList)) (hg:(wc.alloc o).grownBy w6 (Value.slice A xs.length c).ownBlock) (hl:(Value.slice A6 (xs.length+1) c6).ownBlock=(Value.slice A xs.length c).ownBlock∨(Value.slice A6 (xs.length+1) c6).ownBlock=some (wc.alloc o).heap.size) :
  MkS w0 w6 T F (xs++[(x,s)]) A6 c6 ops B d:=by
 have hlb:∀b,(Value.slice A xs.length c).ownBlock=some b→F+1≤b∧b<wc.heap.size:=fun b hb=>h.own.lt b hb;have hqb:∀b,(Value.slice B ops.length d).ownBlock=some b→F+1≤b∧b<wc.heap.size:=fun b hb=>h.qwn.lt b hb;have hsz:wc.heap.size≤w6.heap.size:=zR (by simp) hg.size;have keep:∀b,b<wc.heap.size→some b≠(Value.slice A xs.length c).ownBlock→w6.heap[b]?=wc.heap[b]?:=fun b hb hn=>(hg.block b (by simp;omega) hn).trans (zA _ _ _ hb);have hlen:(xs++[(x,s)]).length=xs.length+1:=by simp
 have new:∀b,b<wc.heap.size→some b≠(Value.slice A xs.length c).ownBlock→some b≠(Value.slice A6 (xs.length+1) c6).ownBlock:=fun b hb hn=>by
  rcases hl with e | e
  ·rw[e];exact hn
  rw[e];intro e';have:=zO e';simp at this;omega
 have bl:Below (F+1) wc w6:=⟨hg.os,hg.tape,hg.output,hsz,fun b hb=>keep b (by have:=zL h.fam;omega) (fun e=>by have:=(hlb b e.symm).1;omega)⟩;have hFl:=zL h.fam;refine⟨h.tape.lowM (by omega) bl,h.oth.of_new (by rw[h0];exact bl),(bl.block F (by omega)).trans h.fam,by rw[hlen,itRow_push];exact hown,fun y hy=>?_,rows_stay h.qwn fun b hb hlt=>keep b hlt (fun e=>rows_ne h.qwn h.own (by decide) b hb e.symm),fun y hy=>?_,by rw[List.map_append];exact h.wf,by rw[List.map_append];exact h.opn⟩
 ·rw[hlen];rcases List.mem_append.1 hy with hy | hy
  ·exact(h.its y hy).to hsz (fun b hb hlt=>keep b hlt hb.2.1) fun b hlt hb=>⟨hb.1,new b hlt hb.2.1,hb.2.2⟩
  simp at hy;subst hy;exact h.itx.to hsz (fun b hb hlt=>keep b hlt hb.2.2.1) fun b hlt hb=>⟨hb.1,new b hlt hb.2.2.1,hb.2.2.2⟩
 rcases List.mem_append.1 hy with hy | hy
 ·exact h.made y hy
 simp at hy;subst hy;exact h.madex
theorem tapeNextB_any(T n:Nat)(w:World)(h0:0<n)(h1:n<=2000)(h:TapeAt T w) :
  Calls Tryz.prog 32 #[.pointer (some ⟨T,0,none⟩),zI (n:Int)] w fun e w'=>(∃r:Nat,r<n/\e=.returned (zI (r:Int)))/\TapeAt T w'/\Oth T w w':=by
 obtain⟨A,l,c,i,ht,hi,hl,hc⟩:=h.t;have hT:=h.lt;have H:=zH h;have HT:=zH ht;have ht0:=zC ht 0;have ht1:=zC ht 1;simp at ht0 ht1;have hf1:=zF ht 1;have hl':l<=9223372036854775807:=by unfold maxLen at hl;omega
 clear h ht hl;by_cases hil:i<l
 ·obtain⟨b,o,rfl,hbT,hx⟩:=hc (by omega);obtain⟨x,hx⟩:=hx i hil;clear hc;have hd:decide ((i:Int)≥(l:Int))=false:=by simp;omega
  obtain⟨w1,hw1⟩:∃w1,w.setCell ⟨T,1,none⟩ (zI ((i:Int)+1))=w1:=⟨_,rfl⟩;have o1:Oth T w w1:=zV hw1;have q1:w1.heap[T]?=some (.cells #[.slice (some ⟨b,o,none⟩) l c,zI ((i:Int)+1)] 50 (0,0)):=by
   rw[<-hw1];simp[World.setCell,zM,HT.o]
  have y0:=zC q1 0;have y1:=zC q1 1;simp at y0 y1;have hx1:=(o1.cell (p:=⟨b,o+i,none⟩) (by simp only;omega) (by simp only;omega)).trans hx;go_enter Tryz.func32,Tryz.ntmps32;go_upto_region 1 with fail;refine Zs 9 ?_;simp only[Zc,List.take_zero,List.drop_succ_cons,List.drop_zero];change wpStill Tryz.prog _ w.drew _ _ _;repeat still_step
  try refine wpStill_nil ?_
  change wpList _ _ _ _ _ w.drew;go_upto_region 4 with fail;have hq:=cutI_lt x n h0;clear hw1;have hi2:IntKind.i64.wrap (i:Int)=(i:Int):=Zi _ ⟨by omega,by omega⟩;refine Zs 13 ?_;simp only[Zc,List.take_zero,List.drop_succ_cons,List.drop_zero];change wpStill Tryz.prog _ w1.drew.drew _ _ _;repeat still_step
  still_call (cut_any x n _ h0 (by omega))
  repeat still_step
  try refine wpStill_nil ?_
  change wpList _ _ _ _ _ w1.drew.drew;go_wp2_with fail;go_ret;exact⟨⟨_,hq,rfl⟩,(H.o.moved o1 HT.o (i':=i+1) (by simpa using q1) (by omega)).below (zB _ _).drew.drew,o1.drew.drew⟩
 have hd:decide ((i:Int)≥(l:Int))=true:=by simp;omega
 go_enter Tryz.func32,Tryz.ntmps32;go_upto_region 1 with fail;refine Zs 9 ?_;simp only[Zc,List.take_zero,List.drop_succ_cons,List.drop_zero];change wpStill Tryz.prog _ w.drew _ _ _;repeat still_step
 try refine wpStill_nil ?_
 change wpList _ _ _ _ _ w.drew;go_wp2_with fail;go_ret;exact⟨⟨0,h0,rfl⟩,H.o.below (zB _ _).drew,(Oth.refl _ _).drew⟩
theorem mNext(T n:Nat)(z:Int)(w:World)(hz:z=(n:Int))(h0:0<n)(h1:n≤2000)(h:TapeAt T w) :
  Calls Tryz.prog 32 #[.pointer (some ⟨T,0,none⟩),.int .i64 z] w fun e w'=>(∃r:Nat,r<n∧e=.returned (.int .i64 (r:Int)))∧TapeAt T w'∧Oth T w w':=by
 subst hz;exact tapeNextB_any T n w h0 h1 h
theorem itv0(V:World)(kd:Int)(ps:Nat)(n:List UInt8)(o:Lfc.Op)(rel cnt:Int)(hn:n.length≤10)(ho:o.name.length≤10):ItV V ⟨kd,ps,n,[],[],o,[],[],[],[],[],[],Lfc.Ord.nil,Lfc.Ord.nil,rel,cnt⟩ IS.nil:=by
 have h0:∀{α:Type}{P:Prop},((([]:List α)≠[])→P):=fun h=>absurd rfl h;refine⟨by show n.length≤_;omega,by show o.name.length≤_;omega,⟨?_,?_⟩,⟨?_,?_⟩,⟨?_,?_⟩,⟨?_,?_⟩,⟨?_,?_⟩,⟨?_,?_⟩,⟨?_,?_⟩,⟨?_,?_⟩,⟨?_,?_⟩,⟨?_,?_⟩⟩ <;> first | exact h0 | exact Nat.zero_le _
theorem itv1(V:World)(kd:Int)(ps:Nat)(n:List UInt8)(ty va:List Raw)(rel cnt:Int)(A A':Option Addr)(c c':Nat)(hn:n.length≤10)(ht:TreesAt V A ty∧ty.length≤c)(hv:TreesAt V A' va∧va.length≤c'):ItV V ⟨kd,ps,n,ty,va,op0,[],[],[],[],[],[],Lfc.Ord.nil,Lfc.Ord.nil,rel,cnt⟩ { IS.nil with ty:=(A,c),va:=(A',c') }:=by
 have h0:∀{α:Type}{P:Prop},((([]:List α)≠[])→P):=fun h=>absurd rfl h;refine⟨by show n.length≤_;omega,Nat.zero_le _,ht,hv,⟨?_,?_⟩,⟨?_,?_⟩,⟨?_,?_⟩,⟨?_,?_⟩,⟨?_,?_⟩,⟨?_,?_⟩,⟨?_,?_⟩,⟨?_,?_⟩⟩ <;> first | exact h0 | exact Nat.zero_le _
theorem treesNil(V:World)(A:Option Addr)(c:Nat):TreesAt V A []∧([]:List Raw).length≤c:=⟨fun h=>absurd rfl h,Nat.zero_le _⟩
theorem tree_box{w6 s2:World}{lo lr K F g:Nat}{t:Raw}{v0 v1 v2 v3:Value}{ty:TypeId}(hT:TreeP (fun b=>lo≤b) w6 t v0 v1 v2 v3)(hK:K<lo)(hlo:lr≤lo)(hk:∀b,lo≤b→b<w6.heap.size→s2.heap[b]?=w6.heap[b]?)(hs:w6.heap.size≤s2.heap.size)(hg:s2.heap[g]?=some (.cells #[v0,v1,v2,v3] ty (0,0)))(hgl:lo≤g) :
  Stays (fun b=>(b=F∨lr≤b)∧b≠K) s2 fun V=>TreesAt V (some ⟨g,0,none⟩) [t]:=by
 intro V h1 h2;have hT2:TreeP (fun b=>lo≤b) s2 t v0 v1 v2 v3:=TreeP.keep hk hs (fun _ _ h=>h) _ _ _ _ _ hT;have hT3:TreeP (fun _=>True) V t v0 v1 v2 v3:=TreeP.keep (fun b hb hlt=>h2 b ⟨.inr (by omega),by omega⟩ hlt) h1 (fun _ _ _=>trivial) _ _ _ _ _ hT2;have hgV:V.heap[g]?=some (.cells #[v0,v1,v2,v3] ty (0,0)):=(h2 g ⟨.inr (by omega),by omega⟩ (zL hg)).trans hg;have h4:TreesAtP (fun _=>True) V (some ⟨g,0,none⟩) [t]:=fun _=>by
  refine⟨g,0,rfl,zL hgV,trivial,?_⟩;rw[TreesP];exact⟨⟨v0,v1,v2,v3,zC hgV 0,zC hgV 1,zC hgV 2,zC hgV 3,hT3⟩,by rw[TreesP];trivial⟩
 intro hne;obtain⟨b,o,hA,hlt,_,h⟩:=h4 hne;exact⟨b,o,hA,hlt,TreesP.toC _ _ _ h⟩
theorem rawM(d:Nat)(z:Int)(hz:z=(d:Int))(hd:d≤20)(T:Nat)(w:World)(h:TapeAt T w):Calls Tryz.prog 13 #[.pointer (some ⟨T,0,none⟩),.int .i64 z] w fun e w'=>(∃k n p ts A c,e=.returned (.agg #[.int .i64 k,S n,.int .i64 p,.slice A ts c])∧∃t:Raw,TreeP (fun b=>w.heap.size≤b) w' t (.int .i64 k) (S n) (.int .i64 p) (.slice A ts c)∧t.fs=true∧t.size+1≤2 ^ (d+1)∧t.depth≤d+1)∧TapeAt T w'∧Oth T w w':=by
 subst hz;refine(raw_anyS d hd T w h).mono ?_;rintro e w'⟨⟨t,v,rfl,hv,h1,h2,h3⟩,h4,h5⟩;obtain⟨⟨k,n,p,ts⟩,ht⟩:∃t',t=t':=⟨t,rfl⟩;rw[ht] at hv;obtain⟨A,c,rfl,hp⟩:=hv.open_;exact⟨⟨k,n,p,ts.length,A,c,rfl,.node k n p ts,hp,ht ▸ h1,ht ▸ h2,ht ▸ h3⟩,h4,h5⟩
theorem Oth.belowM{K lo:Nat}{w w':World}(h:Oth K w w')(hK:lo≤K)(hl:lo≤w.heap.size):Below lo w w':=Oth.below (zB _ _) h hK hl
theorem box_put{T K:Nat}{w8 w9:World}{cs:Array Value}(q:w8.heap[K]?=some (.cells cs 42 (0,0)))(hs:cs.size=22)(o:Oth T w8 w9)(hne:K≠T)(j:Nat)(hj:j<22)(vs:Array Value)(ty:TypeId)(v:Value):∃s u,(w9.alloc (.cells vs ty)).setCell ⟨K,j,none⟩ v=s∧(w9.alloc (.cells vs ty)).cell? ⟨K,j,none⟩=some u∧(w9.alloc (.cells vs ty)).frozen? ⟨K,j,none⟩=false∧Hid (s.heap[K]?=some (.cells (cs.setIfInBounds j v) 42 (0,0))∧(cs.setIfInBounds j v).size=22∧Oth K (w9.alloc (.cells vs ty)) s∧s.heap[w9.heap.size]?=some (.cells vs ty (0,0))∧s.heap.size=w9.heap.size+1):=by
 have hl:=zL q;have ho:=o.size;have q7:(w9.alloc (.cells vs ty)).heap[K]?=_:=(zA _ _ _ (by omega)).trans (o.heap q hne);obtain⟨s1,u1,e1,y1,f1,hs1⟩:=it_set q7 hs j v hj;refine⟨s1,u1,e1,y1,f1,zH ⟨hs1.out.1,hs1.out.2.1,hs1.out.2.2,hs1.out.2.2.heap (zW _ _) (by omega),?_⟩⟩;rw[←e1];simp
theorem box_after{T K:Nat}{wr w9 s:World}{o:Obj}(t:TapeAt T w9)(O:Oth T wr w9)(h:Oth K (w9.alloc o) s)(hTK:T<K)(hK:wr.heap.size≤K)(hl:K≤w9.heap.size):TapeAt T s∧Oth T wr s:=by
 have b7:Below w9.heap.size w9 (w9.alloc o):=(zB _ _).alloc (zN _) _;exact⟨(t.below b7).oth hTK h,(O.trans (zE b7)).of_new (h.belowM hK (by simp;have:=O.size;omega))⟩
theorem stays_oth{T F lr K:Nat}{w w':World}{P:World→Prop}(h:Stays (fun b=>(b=F∨lr≤b)∧b≠K) w P)(o:Oth T w w')(hTF:T<F)(hT:T<lr):Stays (fun b=>(b=F∨lr≤b)∧b≠K) w' P :=
 h.to o.size (fun b hb hlt=>o.block b hlt (fun e=>by have:=zO e;rcases hb.1 with h | h <;> omega)) fun _ _ h=>h
theorem stays_box{F lr K:Nat}{w w':World}{o:Obj}{P:World→Prop}(h:Stays (fun b=>(b=F∨lr≤b)∧b≠K) w P)(hs:Oth K (w.alloc o) w'):Stays (fun b=>(b=F∨lr≤b)∧b≠K) w' P :=
 h.to (zR (by simp) hs.size) (fun b hb hlt=>(hs.block b (by simp;omega) (fun e=>by have:=zO e;exact hb.2 this)).trans (zA _ _ _ hlt)) fun _ _ h=>h
theorem TapeAt.ofL{T:Nat}{w w':World}(h:TapeAt T w)(l:TapeL T w')(o:Oth T w w'):TapeAt T w':=by
 obtain⟨wb,wo,wc,h1,h2,h3,h4⟩:=h.words;have hl:=h.lt;exact⟨l.t,wb,wo,wc,(o.cell (p:=⟨_,0,none⟩) (by simp only;omega) (by simp only;omega)).trans h1,h2,h3,fun k hk=>(o.cell (p:=⟨wb,wo+k,none⟩) (by simp only;omega) (by simp only;omega)).trans (h4 k hk)⟩
theorem mOrder(d:Nat)(z:Int)(hz:z=(d:Int))(hd:d≤3)(T:Nat)(w:World)(h:TapeAt T w):Calls Tryz.prog 45 #[.pointer (some ⟨T,0,none⟩),.int .i64 z] w fun e w'=>(∃k a n A c,e=.returned (.agg #[.int .i64 k,.int .i64 a,.slice A n c])∧Hid (∃ts:List Lfc.Ord,n=ts.length∧OrdsAtP (fun b=>w.heap.size≤b) w' A ts∧ts.length≤c∧(Lfc.Ord.node k a ts).size+1≤2 ^ (d+1)∧(Lfc.Ord.node k a ts).gd=true))∧TapeAt T w'∧Oth T w w':=by
 subst hz;refine(gOrder_any d hd T w ⟨h.t⟩).mono ?_;rintro e w'⟨⟨o,v,rfl,hv,h1,h2⟩,h4,h5⟩;obtain⟨⟨k,a,ts⟩,ho⟩:∃o',o=o':=⟨o,rfl⟩;subst ho;obtain⟨A,c,rfl,hp⟩:=hv.open_;rw[OrdP] at hp;obtain⟨_,_,A',c',e',hc,hp⟩:=hp;injection e' with e1 _ e3;subst e1 e3;exact⟨⟨k,a,ts.length,A,c,rfl,zH ⟨ts,rfl,hp,hc,h1,h2⟩⟩,h.ofL h4 h5,h5⟩
theorem ords_stay{w6 s:World}{lo lr K F:Nat}{A:Option Addr}{ts:List Lfc.Ord}(h:OrdsAtP (fun b=>lo≤b) w6 A ts)(hK:K<lo)(hlo:lr≤lo)(hk:∀b,lo≤b→b<w6.heap.size→s.heap[b]?=w6.heap[b]?)(hs:w6.heap.size≤s.heap.size):Stays (fun b=>(b=F∨lr≤b)∧b≠K) s fun V=>OrdsAt V A ts:=by
 intro V h1 h2;have h3:OrdsAtP (fun b=>lo≤b) s A ts:=h.keep hk hs fun _ _ h=>h;have h4:OrdsAtP (fun _=>True) V A ts:=h3.keep (fun b hb hlt=>h2 b ⟨.inr (by omega),by omega⟩ hlt) h1 fun _ _ _=>trivial;intro hne;obtain⟨b,o,hA,hlt,_,h⟩:=h4 hne;exact⟨b,o,hA,hlt,OrdsP.toC _ _ _ h⟩
theorem itv12(V:World)(ps:Nat)(n:List UInt8)(k a k' a':Int)(ts ts':List Lfc.Ord)(rel:Int)(A A':Option Addr)(c c':Nat)(hn:n.length≤10)(hl:OrdsAt V A ts∧ts.length≤c)(hr:OrdsAt V A' ts'∧ts'.length≤c'):ItV V ⟨12,ps,n,[],[],op0,[],[],[],[],[],[],.node k a ts,.node k' a' ts',rel,0⟩ { IS.nil with le:=(A,c),ri:=(A',c') }:=by
 have h0:∀{α:Type}{P:Prop},((([]:List α)≠[])→P):=fun h=>absurd rfl h;refine⟨by show n.length≤_;omega,Nat.zero_le _,⟨?_,?_⟩,⟨?_,?_⟩,⟨?_,?_⟩,⟨?_,?_⟩,⟨?_,?_⟩,⟨?_,?_⟩,⟨?_,?_⟩,⟨?_,?_⟩,hl,hr⟩ <;> first | exact h0 | exact Nat.zero_le _
theorem itv5(V:World)(ps:Nat)(bl fa:List (List UInt8))(A A':Option Addr)(c c':Nat)(hl:StrsAt V A bl∧bl.length≤c)(hr:StrsAt V A' fa∧fa.length≤c'):ItV V ⟨5,ps,[],[],[],op0,[],[],bl,fa,[],[],Lfc.Ord.nil,Lfc.Ord.nil,0,0⟩ { IS.nil with bl:=(A,c),fa:=(A',c') }:=by
 have h0:∀{α:Type}{P:Prop},((([]:List α)≠[])→P):=fun h=>absurd rfl h;refine⟨Nat.zero_le _,Nat.zero_le _,⟨?_,?_⟩,⟨?_,?_⟩,⟨?_,?_⟩,⟨?_,?_⟩,hl,hr,⟨?_,?_⟩,⟨?_,?_⟩,⟨?_,?_⟩,⟨?_,?_⟩⟩ <;> first | exact h0 | exact Nat.zero_le _
theorem fams_strs{V:World}{F:Nat}(h:V.heap[F]?=some (.cells #[S [110,97,116],S [112,108,117,115],S [102]] 9 (0,0)))(l:List (List UInt8))(hl:l <+: [[110,97,116],[112,108,117,115],[102]]):StrsAt V (some ⟨F,0,none⟩) l:=by
 intro _;refine⟨F,0,rfl,zL h,fun i hi=>?_⟩;obtain⟨r,hr⟩:=hl;have e:l[i]?=([[110,97,116],[112,108,117,115],[102]]:List (List UInt8))[i]?:=by rw[←hr,List.getElem?_append_left hi]
 have h3:i<3:=by have:=congrArg List.length hr;simp at this;omega
 rw[Zg hi] at e;have hc:=zC h i;rw[Nat.zero_add];rcases(show i=0∨i=1∨i=2 by omega) with rfl | rfl | rfl
 ·rw[zO e];exact hc
 ·rw[zO e];exact hc
 rw[zO e];exact hc
theorem it_setE{w:World}{K:Nat}{cs:Array Value}(h:w.heap[K]?=some (.cells cs 42 (0,0)))(hs:cs.size=22)(j:Nat)(v:Value)(hj:j<22)(cs':Array Value)(e:cs.setIfInBounds j v=cs') :
  ∃s u,w.setCell ⟨K,j,none⟩ v=s∧w.cell? ⟨K,j,none⟩=some u∧w.frozen? ⟨K,j,none⟩=false∧Hid (s.heap[K]?=some (.cells cs' 42 (0,0))∧cs'.size=22∧Oth K w s):=by
 subst e;exact it_set h hs j v hj
theorem names_ownM{w:World}{base c:Nat}{A:Option Addr}{q:List (List UInt8)}(h:w.ownsRow base 9 1 (.slice A q.length c) q.length (q.map S)):NamesAt w A q:=fun hne=>by
 rcases h.2 with⟨_,h0⟩ | ⟨g,cap,cur,hv,hbg,hg,_⟩
 ·omega
 have hv':=hv;injection hv' with e1 _ e3;subst e1 e3;refine⟨g,0,rfl,zL hg,fun k hk=>?_⟩;have:=h.cells (g:=g) rfl k (S q[k]) (by simp[hk]);rw[show(⟨g,0,none⟩:Addr).add k=⟨g,0+k,none⟩ by unfold Addr.add;split <;> simp_all] at this;exact this
theorem MkS.on{w0 wr wx:World}{T F:Nat}{xs:List (Itm × IS)}{A:Option Addr}{c:Nat}{ops:List (List UInt8)}{B:Option Addr}{d:Nat}(hI:MkS w0 wr T F xs A c ops B d)(t:TapeAt T wx)(o:Oth T wr wx)(hTF:T<F):MkS w0 wx T F xs A c ops B d:=by
 have hl:∀b,(Value.slice A xs.length c).ownBlock=some b→F+1≤b∧b<wr.heap.size:=fun b hb=>hI.own.lt b hb;have hq:∀b,(Value.slice B ops.length d).ownBlock=some b→F+1≤b∧b<wr.heap.size:=fun b hb=>hI.qwn.lt b hb;refine⟨t,hI.oth.trans o,o.heap hI.fam (by omega),hI.own.kept o (Or.inr fun e=>by have:=(hl T e).1;omega),fun y hy=>?_,hI.qwn.kept o (Or.inr fun e=>by have:=(hq T e).1;omega),hI.made,hI.wf,hI.opn⟩;exact(hI.its y hy).to o.size (fun b hb hlt=>o.block b hlt (fun e=>by have:=zO e;have:=hb.1;omega)) fun b _ hb=>hb
theorem opsOf_len(l:List Itm):(opsOf l).length≤l.length:=by
 unfold opsOf;rw[List.length_map];exact List.length_filter_le _ _
theorem op_grown{w0 wr w6 w7:World}{T F:Nat}{xs:List (Itm × IS)}{A:Option Addr}{c:Nat}{ops:List (List UInt8)}{B B':Option Addr}{d d':Nat}{o:Obj}(hI:MkS w0 wr T F xs A c ops B d)(hTF:T<F)(h0:w0.heap.size=F+1)(t6:TapeAt T w6)(o6:Oth T wr w6)
  (hg:(w6.alloc o).grownBy w7 (Value.slice B ops.length d).ownBlock) (hl:(Value.slice B' (ops.length+1) d').ownBlock=(Value.slice B ops.length d).ownBlock∨(Value.slice B' (ops.length+1) d').ownBlock=some (w6.alloc o).heap.size) :
  TapeAt T w7∧Oth T w0 w7∧Below (F+1) w6 w7∧w7.heap[F]?=some (.cells #[S [110,97,116],S [112,108,117,115],S [102]] 9 (0,0))∧w7.ownsRow (F+1) 42 22 (.slice A xs.length c) xs.length (itRow xs)∧(∀b,b<w6.heap.size→some b≠(Value.slice B ops.length d).ownBlock→some b≠(Value.slice B' (ops.length+1) d').ownBlock)∧∀b,b<w6.heap.size→some b≠(Value.slice B ops.length d).ownBlock→w7.heap[b]?=w6.heap[b]?:=by
 have hI6:=hI.on t6 o6 hTF;have hs6:=o6.size;have hlb:∀b,(Value.slice A xs.length c).ownBlock=some b→F+1≤b∧b<wr.heap.size:=fun b hb=>hI.own.lt b hb;have hqb:∀b,(Value.slice B ops.length d).ownBlock=some b→F+1≤b∧b<wr.heap.size:=fun b hb=>hI.qwn.lt b hb;have hsz:w6.heap.size≤w7.heap.size:=zR (by simp) hg.size;have keep:∀b,b<w6.heap.size→some b≠(Value.slice B ops.length d).ownBlock→w7.heap[b]?=w6.heap[b]?:=fun b hb hn=>(hg.block b (by simp;omega) hn).trans (zA _ _ _ hb);have new:∀b,b<w6.heap.size→some b≠(Value.slice B ops.length d).ownBlock→some b≠(Value.slice B' (ops.length+1) d').ownBlock:=fun b hb hn=>by
  rcases hl with e | e
  ·rw[e];exact hn
  rw[e];intro e';have:=zO e';simp at this;omega
 have hFl:=zL hI6.fam;have bl:Below (F+1) w6 w7:=⟨hg.os,hg.tape,hg.output,hsz,fun b hb=>keep b (by omega) (fun e=>by have:=(hqb b e.symm).1;omega)⟩;refine⟨t6.lowM (by omega) bl,hI6.oth.of_new (by rw[h0];exact bl),bl,(bl.block F (by omega)).trans hI6.fam,rows_stay hI6.own fun b hb hlt=>keep b hlt (fun e=>rows_ne hI6.own hI6.qwn (by decide) b hb e.symm),new,keep⟩
theorem op_arm{w0 wr w6 w7 w9 s3:World}{T F K:Nat}{xs:List (Itm × IS)}{A:Option Addr}{c:Nat}{ops:List (List UInt8)}{B B':Option Addr}{d d':Nat}{ob:Obj}{rp:Nat}{o:List UInt8}{f p:Int}(hI:MkS w0 wr T F xs A c ops B d)(hTF:T<F)(h0:w0.heap.size=F+1)(t6:TapeAt T w6)(o6:Oth T wr w6)
  (hown:w7.ownsRow (F+1) 9 1 (.slice B' (ops.length+1) d') (ops.length+1) (ops.map S++[S o]))
  (hg:(w6.alloc ob).grownBy w7 (Value.slice B ops.length d).ownBlock) (hl:(Value.slice B' (ops.length+1) d').ownBlock=(Value.slice B ops.length d).ownBlock∨(Value.slice B' (ops.length+1) d').ownBlock=some (w6.alloc ob).heap.size)
  (t9:TapeAt T w9) (o9:Oth T w7 w9) (hK1:wr.heap.size≤K) (hTK:T<K) (hK6:K<w6.heap.size) (hs:Oth K w9 s3) (hl5:xs.length≤5)
  (hb:s3.heap[K]?=some (.cells (itCells ⟨3,rp,[],[],[],⟨o,f,p⟩,[],[],[],[],[],[],Lfc.Ord.nil,Lfc.Ord.nil,0,0⟩ IS.nil) 42 (0,0))) (ho:isName o=true) (hol:o.length≤10) (hbad:(⟨o,f,p⟩:Lfc.Op).bad=0) (hno:o ∉ ops) :
  ArmS w0 s3 T F K xs A c (ops++[o]) B' d' ⟨3,rp,[],[],[],⟨o,f,p⟩,[],[],[],[],[],[],Lfc.Ord.nil,Lfc.Ord.nil,0,0⟩ IS.nil:=by
 obtain⟨t7,o7,b7,f7,a7,i7,k7⟩:=op_grown hI hTF h0 t6 o6 hg hl;have hx:=made_op (ps:=rp) ho hol hbad;have hFl:=zL f7;have hs6:=o6.size;have hs7:=b7.size;have hs9:=o9.size;have hss:=hs.size;have hlb:=fun b hb=>a7.lt b hb;have hqb:=fun b hb=>hown.lt b hb;have hlr:∀b,(Value.slice A xs.length c).ownBlock=some b→F+1≤b∧b<wr.heap.size:=fun b hb=>hI.own.lt b hb;have hqr:∀b,(Value.slice B ops.length d).ownBlock=some b→F+1≤b∧b<wr.heap.size:=fun b hb=>hI.qwn.lt b hb;have hqK:(Value.slice B' (ops.length+1) d').ownBlock≠some K:=by
  rcases hl with e | e
  ·rw[e];intro e';have:=(hqr K e').2;omega
  rw[e];intro e';have:=zO e';simp at this;omega
 have hel:(ops++[o]).length=ops.length+1:=by simp
 have hFr:=zL hI.fam;have two:∀b,F≤b→b≠K→b<w7.heap.size→s3.heap[b]?=w7.heap[b]?:=fun b h1 h2 h3=>(hs.block b (by omega) (fun e=>h2 (zO e))).trans (o9.block b h3 (fun e=>by have:=zO e;omega));refine⟨t9.oth hTK hs,(o7.trans o9).of_new (hs.belowM (by omega) (by omega)),(two F (zN _) (by omega) hFl).trans f7,rows_stay a7 fun b hb hlt=>two b (by have:=(hlb b hb).1;omega) (by have:=(hlr b hb).2;omega) hlt,fun y hy=>?_,?_,hI.made,hb,Stays.all fun V=>itv0 V 3 rp [] _ 0 0 (Nat.zero_le _) hol,hx,?_,?_⟩
 ·rw[hel];refine Stays.to (hI.its y hy) (w':=s3) (by omega) (fun b hb hlt=>?_) fun b hlt hb=>⟨hb.1,hb.2.1,i7 b (by omega) hb.2.2⟩;exact(two b hb.1 (by omega) (by omega)).trans ((k7 b (by omega) hb.2.2).trans (o6.block b hlt (fun e=>by have:=zO e;have:=hb.1;omega)))
 ·rw[hel,List.map_append];exact rows_stay hown fun b hb hlt=>two b (by have:=(hqb b hb).1;omega) (fun e=>hqK (e ▸ hb)) hlt
 ·refine wfIts_snoc _ [] _ hI.wf (fun _ h=>by cases h) hx.form hx.trees fun _=>?_;rw[List.nil_append];unfold added;have h1:=opsOf_len (xs.map Prod.fst);rw[List.length_map] at h1;rw[if_neg (by simp only[hbad];decide),if_neg ?_,if_neg (by omega)];rw[Bool.not_eq_true,List.any_eq_false];intro y hy;simp only[Zd];intro e;refine hno ?_;rw[←hI.opn,←e];exact List.mem_map_of_mem hy
 rw[←hI.opn];simp[opsOf]
structure LsK(wr W:World)(T K:Nat)(cs:Array Value)(j:Nat)(e:TypeId)(sz n:Nat)(row:List Value)(A:Option Addr)(c:Nat):Prop where
 tape:TapeAt T W
 oth:Oth T wr W
 box:W.heap[K]?=some (.cells (cs.setIfInBounds j (.slice A n c)) 42 (0,0))
 own:W.ownsRow (K+1) e sz (.slice A n c) n row
theorem LsK.push{wr W W1 w2 w3:World}{T K:Nat}{cs:Array Value}{j:Nat}{e:TypeId}{sz n:Nat}{row row':List Value}{A A':Option Addr}{c c':Nat}(h:LsK wr W T K cs j e sz n row A c)(hcs:cs.size=22)(hj:j<22)(hTK:T<K)(hK:wr.heap.size≤K)(t1:TapeAt T W1)(o1:Oth T W W1)(b2:Below W1.heap.size W1 w2)
  (hown3:w3.ownsRow (K+1) e sz (.slice A' (n+1) c') (n+1) row') (hg:w2.grownBy w3 (Value.slice A n c).ownBlock) (hl:(Value.slice A' (n+1) c').ownBlock=(Value.slice A n c).ownBlock∨(Value.slice A' (n+1) c').ownBlock=some w2.heap.size) :
  (w3.cell? ⟨K,j,none⟩=some (.slice A n c)∧w3.frozen? ⟨K,j,none⟩=false)∧LsK wr (w3.setCell ⟨K,j,none⟩ (.slice A' (n+1) c')) T K cs j e sz (n+1) row' A' c'∧Pushed K (K+1) e sz n row' (.slice A n c) (.slice A' (n+1) c') W1 (w3.setCell ⟨K,j,none⟩ (.slice A' (n+1) c')):=by
 have hv0:∀b,(Value.slice A n c).ownBlock=some b→K+1≤b∧b<W.heap.size:=fun b hb=>h.own.lt b hb;obtain⟨q1,q2,hp⟩:=pushed (j:=j) h.box h.own (Nat.lt_succ_self K) (by omega:K≠T) o1 b2 hown3 hg hl;have e1:(cs.setIfInBounds j (.slice A n c)).setIfInBounds j (.slice A' (n+1) c')=cs.setIfInBounds j (.slice A' (n+1) c'):=by
  apply Array.ext_getElem?;intro i;simp only[Array.getElem?_setIfInBounds,Array.size_setIfInBounds];split <;> simp_all
 rw[e1] at q2;have hs1:=o1.size;have hKl:=zL h.box;have bl:Below K W1 (w3.setCell ⟨K,j,none⟩ (.slice A' (n+1) c')):=⟨hp.os,hp.tape,hp.output,hp.size,fun b hb=>hp.keep b (by omega) (by omega) (fun e=>by have:=(hv0 b e.symm).1;omega)⟩;refine⟨⟨?_,zF q1 j⟩,⟨t1.lowM hTK bl,(h.oth.trans o1).of_new (bl.mono hK),q2,hp.own⟩,hp⟩;rw[zC q1 j,Array.getElem?_setIfInBounds];simp[hcs,hj]
theorem LsK.nums{wr W:World}{T K:Nat}{cs:Array Value}{j:Nat}{F:Nat}{si:List Int}{A:Option Addr}{c:Nat}(h:LsK wr W T K cs j 3 1 si.length (si.map (.int .i64)) A c)(hK:wr.heap.size≤K):Stays (fun b=>(b=F∨wr.heap.size≤b)∧b≠K) W fun V=>NumsAt V A si∧si.length≤c:=by
 have h1:=own_stays h.own (zN _);refine Stays.to (w':=W) (q:=fun b=>K+1≤b) (fun V h2 h3=>?_) (zN _) (fun _ _ _=>rfl) fun b _ hb=>⟨.inr (by omega),by omega⟩;have hown:=h1 V h2 h3;refine⟨fun hne=>?_,own_cap hown⟩;rcases hown.2 with⟨_,h0⟩ | ⟨g,cap,cur,hv,hbg,hg,_⟩
 ·exact absurd (Zz h0) hne
 have hv':=hv;injection hv' with e1 _ e3;subst e1 e3;refine⟨g,0,rfl,zL hg,fun k hk=>?_⟩;have:=hown.cells (g:=g) rfl k (.int .i64 si[k]) (by simp[hk]);rwa[show(⟨g,0,none⟩:Addr).add k=⟨g,0+k,none⟩ by unfold Addr.add;split <;> simp_all] at this
theorem itv6(V:World)(ps:Nat)(n:List UInt8)(si:List Int)(A:Option Addr)(c:Nat)(hn:n.length≤10)(hs:NumsAt V A si∧si.length≤c):ItV V ⟨6,ps,n,[],[],op0,[],[],[],[],si,[],Lfc.Ord.nil,Lfc.Ord.nil,0,0⟩ { IS.nil with si:=(A,c) }:=by
 have h0:∀{α:Type}{P:Prop},((([]:List α)≠[])→P):=fun h=>absurd rfl h;refine⟨by show n.length≤_;omega,Nat.zero_le _,⟨?_,?_⟩,⟨?_,?_⟩,⟨?_,?_⟩,⟨?_,?_⟩,⟨?_,?_⟩,⟨?_,?_⟩,hs,⟨?_,?_⟩,⟨?_,?_⟩,⟨?_,?_⟩⟩ <;> first | exact h0 | exact Nat.zero_le _
theorem int_infoM:∃i,Tryz.prog.info? 3=some i∧i.zero=some (.int .i64 0)∧i.size=1∧i.bytes=8:=by
 obtain⟨i0,hi,hz0,hz1,hz2⟩:=info_parts (show(Tryz.prog.info? 3).map (fun i=>(i.zero,i.size,i.bytes))=some (some (.int .i64 0),1,8) by kernel_rfl);exact⟨i0,hi,hz0,hz1,hz2⟩
theorem fams3{w:World}{g:Nat}(r:Nat)(hr:r<3)(h:w.heap[g]?=some (.cells #[S [110,97,116],S [112,108,117,115],S [102]] 9 (0,0))):∃nm:List UInt8,isName nm=true∧nm.length≤10∧∀W:World,W.heap[g]?=w.heap[g]?→W.cell? ⟨g,r,none⟩=some (S nm):=by
 rcases(show r=0∨r=1∨r=2 by omega) with rfl | rfl | rfl
 ·exact⟨[110,97,116],by decide,by decide,fun W e=>zC (e.trans h) 0⟩
 ·exact⟨[112,108,117,115],by decide,by decide,fun W e=>zC (e.trans h) 1⟩
 exact⟨[102],by decide,by decide,fun W e=>zC (e.trans h) 2⟩
structure OrK(wr W:World)(T K:Nat)(cs:Array Value)(l:List (List UInt8 × Lfc.Ord))(A:Option Addr)(c:Nat)(xs:List Value):Prop where
 ls:LsK wr W T K cs 13 74 4 l.length xs A c
 row:FRow (fun b=>K+1≤b∧some b≠(Value.slice A l.length c).ownBlock) W l xs
theorem OrK.push{wr W W1 w2 w3:World}{T K:Nat}{cs:Array Value}{l:List (List UInt8 × Lfc.Ord)}{A A':Option Addr}{c c':Nat}{xs:List Value}{n:List UInt8}{u:Lfc.Ord}{v0 v1 v2:Value}(h:OrK wr W T K cs l A c xs)(hcs:cs.size=22)(hTK:T<K)(hK:wr.heap.size≤K)(t1:TapeAt T W1)(o1:Oth T W W1)(b2:Below W1.heap.size W1 w2)(hn:n.length≤1000000)(ht:OrdP (fun b=>W.heap.size≤b) W1 u v0 v1 v2)
  (hown3:w3.ownsRow (K+1) 74 4 (.slice A' (l.length+1) c') (l.length+1) (xs++[S n,v0,v1,v2])) (hg:w2.grownBy w3 (Value.slice A l.length c).ownBlock) (hl:(Value.slice A' (l.length+1) c').ownBlock=(Value.slice A l.length c).ownBlock∨(Value.slice A' (l.length+1) c').ownBlock=some w2.heap.size) :
  (w3.cell? ⟨K,13,none⟩=some (.slice A l.length c)∧w3.frozen? ⟨K,13,none⟩=false)∧OrK wr (w3.setCell ⟨K,13,none⟩ (.slice A' (l.length+1) c')) T K cs (l++[(n,u)]) A' c' (xs++[S n,v0,v1,v2]):=by
 obtain⟨r1,r2,r3⟩:=h.ls.push hcs (by decide) hTK hK t1 o1 b2 hown3 hg hl;have hv:∀b,(Value.slice A l.length c).ownBlock=some b→K+1≤b∧b<W.heap.size:=fun b hb=>h.ls.own.lt b hb;have hs1:=o1.size;have hKW:=zL h.ls.box;have hl4:(l++[(n,u)]).length=l.length+1:=by simp
 refine⟨r1,⟨by rw[hl4];exact r2,?_⟩⟩;rw[hl4];refine FRow.append (FRow.one (x:=(n,u)) hn (OrdP.keep (w:=W1) (fun b hb hlt=>r3.keep b hlt (by omega) (fun e=>by have:=(hv b e.symm).2;omega)) r3.size (fun b hlt hb=>⟨by omega,r3.out b hlt (fun e=>by have:=(hv b e.symm).2;omega)⟩) _ _ _ _ ht)) ?_;exact h.row.keep (fun b hb hlt=>(r3.keep b (by omega) (by have:=hb.1;omega) hb.2).trans (o1.block b hlt (fun e=>by have:=zO e;have:=hb.1;omega))) (zR hs1 r3.size) (fun b hlt hb=>⟨hb.1,r3.out b (by omega) hb.2⟩)
theorem OrK.stays{wr W:World}{T K F:Nat}{cs:Array Value}{l:List (List UInt8 × Lfc.Ord)}{A:Option Addr}{c:Nat}{xs:List Value}(h:OrK wr W T K cs l A c xs)(hK:wr.heap.size≤K):Stays (fun b=>(b=F∨wr.heap.size≤b)∧b≠K) W fun V=>FOrdsAt V A l∧l.length≤c:=by
 refine Stays.to (w':=W) (q:=fun b=>K+1≤b) (fun V h1 h2=>?_) (zN _) (fun _ _ _=>rfl) fun b _ hb=>⟨.inr (by omega),by omega⟩;have hown:=own_stays h.ls.own (zN _) V h1 h2;have hrow:=h.row.keep (w':=V) (q':=fun _=>True) (fun b hb hlt=>h2 b hb.1 hlt) h1 (fun _ _ _=>trivial);refine⟨fun hne=>?_,own_cap hown⟩;rcases hown.2 with⟨_,h0⟩ | ⟨g,cap,cur,hv,hbg,hg,_⟩
 ·exact absurd (Zz h0) hne
 have hv':=hv;injection hv' with e1 _ e3;subst e1 e3;refine⟨g,0,rfl,zL hg,hrow.lie fun k u hu=>?_⟩;have:=hown.cells (g:=g) rfl k u hu;rwa[show(⟨g,0,none⟩:Addr).add k=⟨g,0+k,none⟩ by unfold Addr.add;split <;> simp_all] at this
theorem itv10(V:World)(kd:Int)(ps:Nat)(od:List (List UInt8 × Lfc.Ord))(A:Option Addr)(c:Nat)(hs:FOrdsAt V A od∧od.length≤c):ItV V ⟨kd,ps,[],[],[],op0,[],[],[],[],[],od,Lfc.Ord.nil,Lfc.Ord.nil,0,0⟩ { IS.nil with od:=(A,c) }:=by
 have h0:∀{α:Type}{P:Prop},((([]:List α)≠[])→P):=fun h=>absurd rfl h;refine⟨Nat.zero_le _,Nat.zero_le _,⟨?_,?_⟩,⟨?_,?_⟩,⟨?_,?_⟩,⟨?_,?_⟩,⟨?_,?_⟩,⟨?_,?_⟩,⟨?_,?_⟩,hs,⟨?_,?_⟩,⟨?_,?_⟩⟩ <;> first | exact h0 | exact Nat.zero_le _
structure BndK(wr W:World)(T K:Nat)(cs:Array Value)(j:Nat)(l:List Bnd)(A:Option Addr)(c:Nat)(xs:List Value):Prop where
 ls:LsK wr W T K cs j 72 5 l.length xs A c
 row:BRow (fun b=>K+1≤b∧some b≠(Value.slice A l.length c).ownBlock) W l xs
def Aside(K:Nat)(W:World)(v:Value)(P:World→Prop):Prop:=Stays (fun b=>K+1≤b∧some b≠v.ownBlock) W P
theorem BndK.push{wr W W1 w2 w3:World}{T K j:Nat}{cs:Array Value}{l:List Bnd}{A A':Option Addr}{c c':Nat}{xs:List Value}{n:List UInt8}{u:Raw}{v0 v1 v2 v3:Value}(h:BndK wr W T K cs j l A c xs)(hcs:cs.size=22)(hj:j<22)(hTK:T<K)(hK:wr.heap.size≤K)(t1:TapeAt T W1)(o1:Oth T W W1)(b2:Below W1.heap.size W1 w2)(hn:n.length≤1000000)(ht:TreeP (fun b=>W.heap.size≤b) W1 u v0 v1 v2 v3)
  (hown3:w3.ownsRow (K+1) 72 5 (.slice A' (l.length+1) c') (l.length+1) (xs++[S n,v0,v1,v2,v3])) (hg:w2.grownBy w3 (Value.slice A l.length c).ownBlock) (hl:(Value.slice A' (l.length+1) c').ownBlock=(Value.slice A l.length c).ownBlock∨(Value.slice A' (l.length+1) c').ownBlock=some w2.heap.size) :
  (w3.cell? ⟨K,j,none⟩=some (.slice A l.length c)∧w3.frozen? ⟨K,j,none⟩=false)∧BndK wr (w3.setCell ⟨K,j,none⟩ (.slice A' (l.length+1) c')) T K cs j (l++[(n,u)]) A' c' (xs++[S n,v0,v1,v2,v3])∧(∀P,Aside K W (.slice A l.length c) P→Aside K (w3.setCell ⟨K,j,none⟩ (.slice A' (l.length+1) c')) (.slice A' (l.length+1) c') P)∧Below K W1 w3:=by
 obtain⟨r1,r2,r3⟩:=h.ls.push hcs hj hTK hK t1 o1 b2 hown3 hg hl;have hv:∀b,(Value.slice A l.length c).ownBlock=some b→K+1≤b∧b<W.heap.size:=fun b hb=>h.ls.own.lt b hb;have hs1:=o1.size;have hs2:=b2.size;have hs3:=hg.size;have hKW:=zL h.ls.box;have hl4:(l++[(n,u)]).length=l.length+1:=by simp
 refine⟨r1,⟨by rw[hl4];exact r2,?_⟩,fun P hP=>?_,?_⟩
 ·rw[hl4];refine BRow.append (BRow.one (x:=(n,u)) hn (TreeP.keep (w:=W1) (fun b hb hlt=>r3.keep b hlt (by omega) (fun e=>by have:=(hv b e.symm).2;omega)) r3.size (fun b hlt hb=>⟨by omega,r3.out b hlt (fun e=>by have:=(hv b e.symm).2;omega)⟩) _ _ _ _ _ ht)) ?_;exact h.row.keep (fun b hb hlt=>(r3.keep b (by omega) (by have:=hb.1;omega) hb.2).trans (o1.block b hlt (fun e=>by have:=zO e;have:=hb.1;omega))) (zR hs1 r3.size) (fun b hlt hb=>⟨hb.1,r3.out b (by omega) hb.2⟩)
 ·exact Stays.to hP (zR hs1 r3.size) (fun b hb hlt=>(r3.keep b (by omega) (by have:=hb.1;omega) hb.2).trans (o1.block b hlt (fun e=>by have:=zO e;have:=hb.1;omega))) fun b hlt hb=>⟨hb.1,r3.out b (by omega) hb.2⟩
 exact⟨hg.os.trans b2.os,hg.tape.trans b2.tape,hg.output.trans b2.output,by omega,fun b hb=>(hg.block b (by omega) (fun e=>by have:=(hv b e.symm).1;omega)).trans (b2.block b (by omega))⟩
theorem BndK.stays{wr W:World}{T K j:Nat}{cs:Array Value}{l:List Bnd}{A:Option Addr}{c:Nat}{xs:List Value}(h:BndK wr W T K cs j l A c xs):Stays (fun b=>K+1≤b) W fun V=>BndsAt V A l∧l.length≤c:=fun V h1 h2=>by
 have hown:=own_stays h.ls.own (zN _) V h1 h2;have hrow:=h.row.keep (w':=V) (q':=fun _=>True) (fun b hb hlt=>h2 b hb.1 hlt) h1 (fun _ _ _=>trivial);refine⟨fun hne=>?_,own_cap hown⟩;rcases hown.2 with⟨_,h0⟩ | ⟨g,cap,cur,hv,hbg,hg,_⟩
 ·exact absurd (Zz h0) hne
 have hv':=hv;injection hv' with e1 _ e3;subst e1 e3;refine⟨g,0,rfl,zL hg,hrow.lie fun k u hu=>?_⟩;have:=hown.cells (g:=g) rfl k u hu;rwa[show(⟨g,0,none⟩:Addr).add k=⟨g,0+k,none⟩ by unfold Addr.add;split <;> simp_all] at this
theorem BndK.aside{wr W W':World}{T K j:Nat}{cs:Array Value}{l:List Bnd}{A:Option Addr}{c:Nat}{xs:List Value}(h:BndK wr W T K cs j l A c xs)(o:Oth T W W')(hTK:T<K):Aside K W' (.slice none 0 0) fun V=>BndsAt V A l∧l.length≤c :=
 Stays.to h.stays o.size (fun b hb hlt=>o.block b hlt (fun e=>by have:=zO e;omega)) fun b _ hb=>⟨hb,fun e=>by cases e⟩
theorem Aside.whole{wr W:World}{K F:Nat}{v:Value}{P:World→Prop}(h:Aside K W v P)(hK:wr.heap.size≤K):Stays (fun b=>(b=F∨wr.heap.size≤b)∧b≠K) W P :=
 Stays.to h (zN _) (fun _ _ _=>rfl) fun b _ hb=>⟨.inr (by have:=hb.1;omega),by have:=hb.1;omega⟩
theorem BndK.whole{wr W:World}{T K j F:Nat}{cs:Array Value}{l:List Bnd}{A:Option Addr}{c:Nat}{xs:List Value}(h:BndK wr W T K cs j l A c xs)(hK:wr.heap.size≤K):Stays (fun b=>(b=F∨wr.heap.size≤b)∧b≠K) W fun V=>BndsAt V A l∧l.length≤c :=
 Stays.to h.stays (zN _) (fun _ _ _=>rfl) fun b _ hb=>⟨.inr (by omega),by omega⟩
theorem itv4(V:World)(ps:Nat)(n:List UInt8)(so pa:List Bnd)(A A':Option Addr)(c c':Nat)(hn:n.length≤10)(hs:BndsAt V A so∧so.length≤c)(hp:BndsAt V A' pa∧pa.length≤c'):ItV V ⟨4,ps,n,[],[],op0,so,pa,[],[],[],[],Lfc.Ord.nil,Lfc.Ord.nil,0,0⟩ { IS.nil with so:=(A,c),pa:=(A',c') }:=by
 have h0:∀{α:Type}{P:Prop},((([]:List α)≠[])→P):=fun h=>absurd rfl h;refine⟨by show n.length≤_;omega,Nat.zero_le _,⟨?_,?_⟩,⟨?_,?_⟩,hs,hp,⟨?_,?_⟩,⟨?_,?_⟩,⟨?_,?_⟩,⟨?_,?_⟩,⟨?_,?_⟩,⟨?_,?_⟩⟩ <;> first | exact h0 | exact Nat.zero_le _
def Lows(T K:Nat)(w W:World):Prop:=∀b,b<K→b≠T→W.heap[b]?=w.heap[b]?
theorem Lows.start{T K:Nat}(w:World):Lows T K w w.drew:=fun _ _ _=>rfl
theorem Lows.call{T K:Nat}{w W W':World}(h:Lows T K w W)(o:Oth T W W')(hK:K≤W.heap.size):Lows T K w W':=fun b hb hn=>(o.block b (by omega) (fun e=>hn (zO e))).trans (h b hb hn)
theorem Lows.alloc{T K:Nat}{w W:World}(h:Lows T K w W)(o:Obj)(hK:K≤W.heap.size):Lows T K w (W.alloc o):=fun b hb hn=>(zA _ _ _ (by omega)).trans (h b hb hn)
theorem Lows.grown{T K:Nat}{w W W':World}{v:Option Nat}(h:Lows T K w W)(hg:W.grownBy W' v)(hv:∀b,v=some b→K≤b)(hK:K≤W.heap.size):Lows T K w W':=fun b hb hn=>(hg.block b (by omega) (fun e=>by have:=hv b e.symm;omega)).trans (h b hb hn)
theorem Lows.set{T K j:Nat}{w W:World}{v:Value}(h:Lows T K w W)(hK:K≤W.heap.size):Lows T K w (W.setCell ⟨K,j,none⟩ v):=fun b hb hn=>((Oth.set (T:=K) W v).block b (by omega) (fun e=>by have:=zO e;omega)).trans (h b hb hn)
theorem Lows.cell{T K:Nat}{w W:World}(h:Lows T K w W){p:Addr}(hp:p.block<K)(hn:p.block≠T):W.cell? p=w.cell? p:=World.cell?_of_block (h _ hp hn)
theorem fillO(a:Act)(i:Nat)(x0 x1 x2 x3:Value)(h:a.eval (.tmp i)=.agg #[x0,x1,x2,x3]):Instr.fill (fun i=>some (i*4,4)) (Array.map (fun x=>(Value.agg #[S [],.int .i64 0,.int .i64 0,.slice none 0 0]).cells[x % (Value.agg #[S [],.int .i64 0,.int .i64 0,.slice none 0 0]).cells.size]!) (Array.range (1*4))) (Array.map (fun x=>match x with | (i,x)=>(i,a.eval x)) #[(0,Operand.tmp i)]).toList=some #[x0,x1,x2,x3]:=by
 simp[Instr.fill,h,Value.cells,Array.range];rfl
theorem fillB(a:Act)(i:Nat)(x0 x1 x2 x3 x4:Value)(h:a.eval (.tmp i)=.agg #[x0,x1,x2,x3,x4]):Instr.fill (fun i=>some (i*5,5)) (Array.map (fun x=>(Value.agg #[S [],.int .i64 0,S [],.int .i64 0,.slice none 0 0]).cells[x % (Value.agg #[S [],.int .i64 0,S [],.int .i64 0,.slice none 0 0]).cells.size]!) (Array.range (1*5))) (Array.map (fun x=>match x with | (i,x)=>(i,a.eval x)) #[(0,Operand.tmp i)]).toList=some #[x0,x1,x2,x3,x4]:=by
 simp[Instr.fill,h,Value.cells,Array.range];rfl
def bndG(b:Bnd):Prop:=isName b.1=true∧b.1.length≤10∧b.2.fs=true∧b.2.size≤7∧b.2.depth≤3
end Go.Proofs.YthajalgkjonaaaaGreatDoor
