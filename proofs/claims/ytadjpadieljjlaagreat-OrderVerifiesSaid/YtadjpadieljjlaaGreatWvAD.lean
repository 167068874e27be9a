/- Parts of the proof that no input makes the law false: OrPar, OrStand, OrStand2, OrFits, OrPathP. -/
import Derived.Laws.MakeOwn
import Derived.Deep.OwnRows
import Derived.RangeFuncBox
import Derived.WalkSmall
import Derived.Test.YtadjpadieljjlaaGreatWvAC
set_option linter.unusedVariables false
set_option linter.unusedSimpArgs false
set_option maxRecDepth 100000
set_option maxHeartbeats 32000000
namespace Lfc
def piCh:Nat→Raw
 |0=>.node 1 [] 0 []
 |k+1=>.node 2 [] 0 [.node 4 [113] 0 [],piCh k]
end Lfc
namespace Go.Proofs.YtadjpadieljjlaaGreat
section
open Go.RowKit Go.Maps _root_.Lfc
attribute [local go_sem ↓] Go.wp_at_zero Go.wp_at_succ
theorem cells4t{W:World}{g:Nat}{v0 v1 v2 v3:Value}{t:TypeId}(h:W.heap[g]?=some (.cells #[v0,v1,v2,v3] t (0,0))):W.cell? ⟨g,0,none⟩=some v0∧W.cell? ⟨g,1,none⟩=some v1∧W.cell? ⟨g,2,none⟩=some v2∧W.cell? ⟨g,3,none⟩=some v3 :=
 ⟨zC h 0,zC h 1,zC h 2,zC h 3⟩
theorem tput4{W:World}{R:Nat}{a0 a1 a2 a3:Value}{t:TypeId}(h:W.heap[R]?=some (.cells #[a0,a1,a2,a3] t (0,0)))(v0 v1 v2 v3:Value):∃s1 s2 s3 s4,W.setCell ⟨R,0,none⟩ v0=s1∧s1.setCell ⟨R,1,none⟩ v1=s2∧s2.setCell ⟨R,2,none⟩ v2=s3∧s3.setCell ⟨R,3,none⟩ v3=s4 ∧
  (W.cell? ⟨R,0,none⟩=some a0∧s1.cell? ⟨R,1,none⟩=some a1∧s2.cell? ⟨R,2,none⟩=some a2∧s3.cell? ⟨R,3,none⟩=some a3) ∧
  (W.frozen? ⟨R,0,none⟩=false∧s1.frozen? ⟨R,1,none⟩=false∧s2.frozen? ⟨R,2,none⟩=false∧s3.frozen? ⟨R,3,none⟩=false) ∧
  s4.heap[R]?=some (.cells #[v0,v1,v2,v3] t (0,0))∧Oth R W s4:=by
 obtain⟨s1,h1⟩:∃s1,W.setCell ⟨R,0,none⟩ v0=s1:=⟨_,rfl⟩;obtain⟨s2,h2⟩:∃s2,s1.setCell ⟨R,1,none⟩ v1=s2:=⟨_,rfl⟩;obtain⟨s3,h3⟩:∃s3,s2.setCell ⟨R,2,none⟩ v2=s3:=⟨_,rfl⟩;obtain⟨s4,h4⟩:∃s4,s3.setCell ⟨R,3,none⟩ v3=s4:=⟨_,rfl⟩;have q1:s1.heap[R]?=some (.cells #[v0,a1,a2,a3] t (0,0)):=zU h h1;have q2:s2.heap[R]?=some (.cells #[v0,v1,a2,a3] t (0,0)):=zU q1 h2;have q3:s3.heap[R]?=some (.cells #[v0,v1,v2,a3] t (0,0)):=zU q2 h3;have q4:s4.heap[R]?=some (.cells #[v0,v1,v2,v3] t (0,0)):=zU q3 h4;refine⟨s1,s2,s3,s4,h1,h2,h3,h4,⟨zC h 0,zC q1 1,zC q2 2,zC q3 3⟩,⟨zF h 0,zF q1 1,zF q2 2,zF q3 3⟩,q4,?_⟩;rw[←h4,←h3,←h2,←h1];exact(((Oth.set W v0).trans (Oth.set _ v1)).trans (Oth.set _ v2)).trans (Oth.set _ v3)
theorem TreeV.parts{w:World}{k p:Int}{n:List UInt8}{ts:List Raw}{A:Option Addr}{c:Nat}(h:TreeV w (.node k n p ts) (.agg #[.int .i64 k,S n,.int .i64 p,.slice A ts.length c])):TreesAt w A ts∧ts.length≤c:=by
 obtain⟨v0,v1,v2,v3,e,h⟩:=h;simp only[Value.agg.injEq,Array.mk.injEq,List.cons.injEq,and_true] at e;obtain⟨rfl,rfl,rfl,rfl⟩:=e;rw[TreeC] at h;obtain⟨_,_,_,_,A',c',e,hc,h⟩:=h;simp only[Value.slice.injEq,true_and] at e;obtain⟨rfl,rfl⟩:=e;exact⟨h,hc⟩
theorem term_size:(Tryz.prog.info? 51).map (·.size)=some 4:=by kernel_rfl
theorem results_term2{fn:Func}{p u:Tmp}(h:fn.results=#[.cell p 51,.tmp u])(tmps:Array Value)(w:World)(g:Nat)(v0 v1 v2 v3:Value)(hp:tmps.getD p undef=.pointer (some ⟨g,0,none⟩))(hg:w.heap[g]?=some (.cells #[v0,v1,v2,v3] 51 (0,0))) :
  (results fn tmps).run Tryz.prog w=.ok (.tuple #[.agg #[v0,v1,v2,v3],tmps.getD u undef]) w:=by
 rw[results_cell_tmp h,hp];simp[asAddr,run_loadVar_row w g _ _ _ _ _ hg Tryz.underlying51 rfl term_size,Result.andThen]
theorem oRest_any(k:Nat)(hk:k<=1000)(v:Value)(w:World)(hv:TreeV w (piCh k) v) :
  Calls Tryz.prog 86 #[v] w fun e w'=>(∃A c,e=.returned (.tuple #[.agg #[zI 1,S [],zI 0,.slice A 0 c],zI (k:Int)]))/\zb w w':=by
 obtain⟨kd,n,p,ts,hT⟩:∃kd n p ts,piCh k=.node kd n p ts:=by
  cases piCh k with
  |node kd n p ts=>exact⟨kd,n,p,ts,rfl⟩
 have hv':=hv;rw[hT] at hv;obtain⟨A,c,rfl,hc,hA⟩:=hv.open_;obtain⟨w1,hw1⟩:∃w1,w.alloc (.cells (zT kd n p A ts c) 51)=w1:=⟨_,rfl⟩;obtain⟨w2,hw2⟩:∃w2,w1.alloc (.cells #[zI 0,S [],zI 0,zS] 51)=w2:=⟨_,rfl⟩;have b1:=zG hw1;have b2:=zG hw2;have q1:=zQ hw1;have q2:=zQ hw2;have l1:=zL q1;have q12:=(b2.block _ l1).trans q1;have s1:=b1.size;have b02:=b1.trans (b2.mono s1);have HI0:Hid (piCh k=.node kd n p ts/\zk w2 w.heap.size (zT kd n p A ts c) 51/\zk w2 w1.heap.size #[zI 0,S [],zI 0,zS] 51/\TreeV w (piCh k) (.agg (zT kd n p A ts c))/\zb w w2):=zH ⟨hT,q12,q2,hv',b02⟩;clear hT hA hv hv' q1 q2 q12 b1 b2 b02;go_enter Tryz.func86,Tryz.ntmps86;go_wp2_with fail;go_loopw [4] (fun i wr=>∃(j m:Nat)(kd:Int)(n:List UInt8)(p:Int)(ts:List Raw)(A:Option Addr)(c:Nat),m+j=k/\i=zI m/\Hid (piCh j=.node kd n p ts/\zk wr w.heap.size (zT kd n p A ts c) 51/\zk wr w1.heap.size #[zI 0,S [],zI 0,zS] 51/\TreeV w (piCh j) (.agg (zT kd n p A ts c))/\zb w wr)) (fun i _=>k-(intOf i).toNat);case atStart=>exact⟨k,0,kd,n,p,ts,A,c,by omega,rfl,HI0⟩
 clear HI0 hc hw1 hw2;obtain⟨j,m,kd',n',p',ts',A2,c2,hm,rfl,HI⟩:=hrel;obtain⟨hT,hq,hr,hv,hb⟩:=HI.o;obtain⟨y0,y1,y2,y3⟩:=cells4t hq;cases j with
 |zero =>
  obtain rfl:m=k:=by omega
  rw[piCh] at hT;obtain⟨rfl,rfl,rfl,rfl⟩:=Raw.node.inj hT;obtain⟨s1,s2,s3,s4,g1,g2,g3,g4,⟨z0,z1,z2,z3⟩,⟨f0,f1,f2,f3⟩,hq2,ho⟩:=tput4 hr (zI 1) (S []) (zI 0) (.slice A2 0 c2);have HQ:=zH hq2;have HB:Hid (zb w s4):=zH (Oth.below hb ho (by omega) (by have:=hb.size;omega));clear HI hT hq hr hv hb hq2 ho;go_wp2_with fail;refine Zb (results_term2 rfl _ _ _ _ _ _ _ rfl HQ.o) ?_;exact⟨⟨_,_,rfl⟩,HB.o⟩
 |succ j =>
  have hcj:TreesAt w A2 ts'/\ts'.length<=c2:=by
   have hv2:=hv;rw[hT] at hv2;exact hv2.parts
  rw[piCh] at hT;obtain⟨rfl,rfl,rfl,rfl⟩:=Raw.node.inj hT;obtain⟨b,o,k1,n1,p1,us,B,c1,rfl,hbl,ht,d0,d1,d2,d3,hcu,hB,hT2⟩:=hcj.1.at_ (i:=1) (by simp);have hbc:∀o,wr.cell? ⟨b,o,none⟩=w.cell? ⟨b,o,none⟩:=fun o=>hb.cell (p:=⟨b,o,none⟩) hbl;have x0:wr.cell? ⟨b,o+4,none⟩=some (zI k1):=by rw[hbc];simpa using d0
  have x1:wr.cell? ⟨b,o+4+1,none⟩=some (S n1):=by rw[hbc];simpa using d1
  have x2:wr.cell? ⟨b,o+4+2,none⟩=some (zI p1):=by rw[hbc];simpa using d2
  have x3:wr.cell? ⟨b,o+4+3,none⟩=some (.slice B us.length c1):=by rw[hbc];simpa using d3
  obtain⟨s1,s2,s3,s4,g1,g2,g3,g4,⟨z0,z1,z2,z3⟩,⟨f0,f1,f2,f3⟩,hq2,ho⟩:=tput4 hq (zI k1) (S n1) (zI p1) (.slice B us.length c1);have HN:Hid (piCh j=.node k1 n1 p1 us/\zk s4 w.heap.size (zT k1 n1 p1 B us c1) 51/\zk s4 w1.heap.size #[zI 0,S [],zI 0,zS] 51/\TreeV w (piCh j) (.agg (zT k1 n1 p1 B us c1))/\zb w s4) :=
   zH ⟨by simpa using ht,hq2,(ho.block _ (zL hr) (fun e=>by have:=zO e;omega)).trans hr,by simpa using hT2,Oth.below hb ho (by omega) (by have:=hb.size;omega)⟩
  clear HI hT hq hr hv hb hq2 ho hcj d0 d1 d2 d3 ht hB hT2 hbc;have hw3:IntKind.i64.wrap ((m:Int)+1)=(m:Int)+1:=Zi _ (by omega);go_wp2_with fail;go_roundw;case rel=>exact⟨j,m+1,k1,n1,p1,us,B,c1,by omega,by go_num,HN⟩
  case measure=>simp[intOf];omega
theorem oParams_any(k:Nat)(hk:k<=1000)(v:Value)(w:World)(hv:TreeV w (piCh k) v) :
  Calls Tryz.prog 55 #[v] w fun e w'=>e=.returned (zI (k:Int))/\zb w w':=by
 obtain⟨kd,n,p,ts,hT⟩:∃kd n p ts,piCh k=.node kd n p ts:=by
  cases piCh k with
  |node kd n p ts=>exact⟨kd,n,p,ts,rfl⟩
 have hv':=hv;rw[hT] at hv;obtain⟨A,c,rfl,hc,hA⟩:=hv.open_;obtain⟨w1,hw1⟩:∃w1,w.alloc (.cells (zT kd n p A ts c) 51)=w1:=⟨_,rfl⟩;have b1:=zG hw1;have q1:=zQ hw1;have s1:=b1.size;obtain⟨y0,y1,y2,y3⟩:=cells4t q1;have C:=zH (oRest_any k hk _ w1 (hv'.below b1));have HB:=zH b1;clear hT hA hv hv' q1 b1 hc;go_enter Tryz.func55,Tryz.ntmps55;go_wp2_with fail;refine C.o.mono ?_;rintro e w2⟨⟨A9,c9,rfl⟩,hb2⟩;go_wp2_with fail;go_ret;exact⟨rfl,(HB.o.trans (hb2.mono s1)).alloc (zR s1 hb2.size) _⟩
end
section
open Go.RowKit _root_.Lfc
theorem enters_st:∀args w,(callFunc 72 args).run Tryz.prog w=.ok (.enter 72 args) w:=enters_of Tryz.func72 (by kernel_rfl) rfl
def ints(tv:List Int):List Value:=tv.map fun z=>.int .i64 z
structure StS(w0:World)(ks:List Int)(A0:Option Addr)(c0 cr B1 B2 B3 B4 G:Nat)(W:World)(tv:List Int):Prop where
 below:Below w0.heap.size w0 W
 b1:W.heap[B1]?=some (.cells #[.int .i64 (cr:Int)] 3 (0,0))
 b2:W.heap[B2]?=some (.cells #[.slice A0 ks.length c0] 22 (0,0))
 b3:W.heap[B3]?=some (.cells #[.slice (some ⟨G,0,none⟩) cr cr] 22 (0,0))
 b4:W.heap[B4]?=some (.cells #[.func (.func 72) #[] #[.pointer (some ⟨B1,0,none⟩),.pointer (some ⟨B2,0,none⟩),.pointer (some ⟨B3,0,none⟩),.pointer (some ⟨B4,0,none⟩)]] 129 (0,0))
 g:W.heap[G]?=some (.cells (ints tv).toArray 3 (0,0))
 len:tv.length=cr
 n:w0.heap.size≤G∧B1≠G∧B2≠G∧B3≠G∧B4≠G
theorem StS.wide{w0:World}{ks:List Int}{A0:Option Addr}{c0 cr B1 B2 B3 B4 G:Nat}{W W':World}{tv:List Int}(h:StS w0 ks A0 c0 cr B1 B2 B3 B4 G W tv)(hb:Below W.heap.size W W'):StS w0 ks A0 c0 cr B1 B2 B3 B4 G W' tv :=
 ⟨h.below.trans (hb.mono h.below.size),(hb.block _ (zL h.b1)).trans h.b1,(hb.block _ (zL h.b2)).trans h.b2,(hb.block _ (zL h.b3)).trans h.b3,(hb.block _ (zL h.b4)).trans h.b4,(hb.block _ (zL h.g)).trans h.g,h.len,h.n⟩
theorem StS.set{w0:World}{ks:List Int}{A0:Option Addr}{c0 cr B1 B2 B3 B4 G:Nat}{W:World}{tv:List Int}(h:StS w0 ks A0 c0 cr B1 B2 B3 B4 G W tv)(q:Nat)(z:Int):StS w0 ks A0 c0 cr B1 B2 B3 B4 G (W.setCell ⟨G,q,none⟩ (.int .i64 z)) (tv.set q z):=by
 have ho:Oth G W (W.setCell ⟨G,q,none⟩ (.int .i64 z)):=Oth.set _ _;obtain⟨n0,n1,n2,n3,n4⟩:=h.n;refine⟨Oth.below h.below ho n0 h.below.size,ho.heap h.b1 n1,ho.heap h.b2 n2,ho.heap h.b3 n3,ho.heap h.b4 n4,?_,by rw[List.length_set];exact h.len,h.n⟩;simp[World.setCell,zM,h.g,ints,List.map_set]
theorem StS.cell{w0:World}{ks:List Int}{A0:Option Addr}{c0 cr B1 B2 B3 B4 G:Nat}{W:World}{tv:List Int}(h:StS w0 ks A0 c0 cr B1 B2 B3 B4 G W tv){q:Nat}(hq:q<cr):W.cell? ⟨G,q,none⟩=some (.int .i64 (tv.getD q 0))∧W.frozen? ⟨G,q,none⟩=false:=by
 refine⟨?_,zF h.g q⟩;rw[zC h.g q];have:=h.len;simp[ints,List.getD_eq_getElem?_getD,Zg (show q<tv.length by omega)]
def StAns(w0:World)(ks:List Int)(A0:Option Addr)(c0 cr B1 B2 B3 B4 G:Nat)(W:World)(r:Option (List Int))(e:Ending)(w':World):Prop :=
 ((r=none∧e=.returned (.bool false))∨(∃tv',r=some tv'∧e=.returned (.bool true)∧StS w0 ks A0 c0 cr B1 B2 B3 B4 G w' tv'))∧Oth G W w'
theorem StAns.no{w0:World}{ks:List Int}{A0:Option Addr}{c0 cr B1 B2 B3 B4 G:Nat}{W:World}{r:Option (List Int)}{w':World}(h:r=none)(ho:Oth G W w'):StAns w0 ks A0 c0 cr B1 B2 B3 B4 G W r (.returned (.bool false)) w':=⟨.inl ⟨h,rfl⟩,ho⟩
theorem st_node(ks:List Int)(cr:Nat)(k k' p p' d:Int)(n n':List UInt8)(xs ys:List Raw)(tv:List Int) :
  (Raw.node k n p xs).st ks cr (.node k' n' p' ys) d tv=if k≠k'∨xs.length≠ys.length then none else match stStep ks cr k n n' p p' d tv with | none=>none | some tv'=>Raw.sts ks cr xs ys (if k=3 then d+1 else d) tv':=by rw[Raw.st];rfl
theorem st_some{ks:List Int}{cr:Nat}{k p p' d d2:Int}{n n':List UInt8}{xs ys:List Raw}{tv tv2:List Int}(hl:xs.length=ys.length)(h:stStep ks cr k n n' p p' d tv=some tv2)(hd:d2=if k=3 then d+1 else d) :
  (Raw.node k n p xs).st ks cr (.node k n' p' ys) d tv=Raw.sts ks cr xs ys d2 tv2:=by
 rw[st_node,if_neg (by rintro (h | h);exact h rfl;exact h hl),h,hd]
theorem st_none{ks:List Int}{cr:Nat}{k p p' d:Int}{n n':List UInt8}{xs ys:List Raw}{tv:List Int}(hl:xs.length=ys.length)(h:stStep ks cr k n n' p p' d tv=none) :
  (Raw.node k n p xs).st ks cr (.node k n' p' ys) d tv=none:=by
 rw[st_node,if_neg (by rintro (h | h);exact h rfl;exact h hl),h]
theorem sts_drop{ks:List Int}{cr:Nat}{d:Int}{tv:List Int}{xs ys:List Raw}{j:Nat}(h:j<xs.length)(h':j<ys.length) :
  Raw.sts ks cr (xs.drop j) (ys.drop j) d tv=match Raw.st ks cr xs[j] ys[j] d tv with | none=>none | some tv'=>Raw.sts ks cr (xs.drop (j+1)) (ys.drop (j+1)) d tv':=by
 rw[List.drop_eq_getElem_cons h,List.drop_eq_getElem_cons h',Raw.sts];rfl
theorem stWalk_upto(w0:World)(ks:List Int)(A0:Option Addr)(c0 cr B1 B2 B3 B4 G:Nat)(hcr:cr<=1000000)(hks:ks.length<=1000000)(hA0:IntsO w0 A0 ks)(m:Nat)(hm:m<=1000000) :
  ∀(s t:Raw)(vs vt:Value)(d:Int)(tv:List Int)(W:World),s.size<=m->0<=d->d+s.size<=2000000->s.obj=true->t.obj=true->TreeV w0 s vs->TreeV w0 t vt->StS w0 ks A0 c0 cr B1 B2 B3 B4 G W tv ->
  Calls Tryz.prog 72 #[vs,vt,zI d,.pointer (some ⟨B1,0,none⟩),.pointer (some ⟨B2,0,none⟩),.pointer (some ⟨B3,0,none⟩),.pointer (some ⟨B4,0,none⟩)] W
   (StAns w0 ks A0 c0 cr B1 B2 B3 B4 G W (s.st ks cr t d tv)):=by
 induction m with
 |zero=>intro s t vs vt d tv W h;have:=s.size_pos;omega
 |succ m ih =>
  intro s t vs vt d tv W hsz hd0 hds hso hto hv hv' hS;have he:=enters_st;obtain⟨kd,nm,ps,xs⟩:=s;obtain⟨kd',nm',ps',ys⟩:=t;obtain⟨A,c,rfl,hc,hA⟩:=hv.open_;obtain⟨A',c',rfl,hc',hA'⟩:=hv'.open_;simp only[Raw.size] at hsz hds;have hlen:=Raw.sizes_len xs;obtain⟨Wa,hWa⟩:∃Wa,W.alloc (.cells (zT kd nm ps A xs c) 51)=Wa:=⟨_,rfl⟩;obtain⟨Wb,hWb⟩:∃Wb,Wa.alloc (.cells (zT kd' nm' ps' A' ys c') 51)=Wb:=⟨_,rfl⟩;have ba:=zG hWa;have bb:=zG hWb;have qa:=zQ hWa;have qb:=zQ hWb;have la:=zL qa;have lb:=zL qb;have lg:=zL hS.g;have bW:zb W Wb:=ba.trans (bb.mono (by omega));have QA:=zH ((bb.block _ la).trans qa);have QB:=zH qb;have SB:=zH (hS.wide bW);have OW:Hid (Oth G W Wb):=zH (zE bW);have IH:=zH (ih (by omega));have HA:=zH hA;have HA':=zH hA';have HB0:=zH hA0;obtain⟨y0,y1,y2,y3⟩:=cells4t QA.o;obtain⟨z0,z1,z2,z3⟩:=cells4t QB.o;have c1:=zC SB.o.b1 0;have c2:=zC SB.o.b2 0;have c3:=zC SB.o.b3 0;simp at c1 c2 c3;have hob:(kd=3\/kd=4\/kd=5\/kd=6)/\(kd=5\/kd=6->0<=ps/\ps<=1048576)/\Raw.objs xs=true:=by
   rw[Raw.obj] at hso;split at hso
   ·simp at hso;exact⟨by omega,by omega,hso.2⟩
   split at hso
   ·simp at hso;exact⟨by omega,by omega,hso.2⟩
   split at hso
   ·simp at hso;exact⟨by omega,by omega,hso.2⟩
   split at hso
   ·simp at hso;exact⟨by omega,by omega,hso.2⟩
   cases hso
  have hob':(kd'=5\/kd'=6->0<=ps'/\ps'<=1048576)/\Raw.objs ys=true:=by
   rw[Raw.obj] at hto;split at hto
   ·simp at hto;exact⟨by omega,hto.2⟩
   split at hto
   ·simp at hto;exact⟨by omega,hto.2⟩
   split at hto
   ·simp at hto;exact⟨by omega,hto.2⟩
   split at hto
   ·simp at hto;exact⟨by omega,hto.2⟩
   cases hto
  obtain⟨hk4,hps,hox⟩:=hob;obtain⟨hps',hoy⟩:=hob';have HOX:=zH ((objs_spec xs).1 hox);have HOY:=zH ((objs_spec ys).1 hoy);clear ih hv hv' hA hA' ba bb qa qb bW hS hso hto hox hoy hA0;by_cases hk:kd=kd'
  ·subst hk;have hk2:(kd != kd)=false:=(by simp);by_cases hl:xs.length=ys.length
   ·have hl2:((xs.length:Int) != (ys.length:Int))=false:=(by simp;omega);have HL:=zH hl;clear hl;have HNO:Hid (stStep ks cr kd nm nm' ps ps' d tv=none->∀w',Oth G W w'->StAns w0 ks A0 c0 cr B1 B2 B3 B4 G W ((Raw.node kd nm ps xs).st ks cr (.node kd nm' ps' ys) d tv) (.returned (.bool false)) w'):=zH (fun h w' ho=>StAns.no (st_none HL.o h) ho);have HYES:Hid (∀d2 tv2,stStep ks cr kd nm nm' ps ps' d tv=some tv2->d2=(if kd=3 then d+1 else d)->(Raw.node kd nm ps xs).st ks cr (.node kd nm' ps' ys) d tv=Raw.sts ks cr xs ys d2 tv2):=zH (fun d2 tv2 h hd=>st_some HL.o h hd);go_enter Tryz.func72,Tryz.ntmps72;go_upto_block 0 with fail;go_cut [2] (fun s2 wx=>∃(d2:Int)(tv2:List Int),s2=zI d2/\d<=d2/\d2<=d+1/\Hid (d2=if kd=3 then d+1 else d)/\Hid (stStep ks cr kd nm nm' ps ps' d tv=some tv2)/\Hid (StS w0 ks A0 c0 cr B1 B2 B3 B4 G wx tv2)/\Hid (Oth G Wb wx));case first =>
     rcases hk4 with rfl | rfl | rfl | rfl
     ·have HST:Hid (stStep ks cr 3 nm nm' ps ps' d tv=some tv):=zH (by simp[stStep]);have hwd:IntKind.i64.wrap (d+1)=d+1:=Zi _ (by omega);clear HNO HYES;go_wp2_with fail;go_meet;exact⟨d+1,tv,rfl,by omega,by omega,zH (by simp),HST,SB,zH (Oth.refl _ _)⟩
     ·by_cases hn:nm=nm'
      ·have HST:Hid (stStep ks cr 4 nm nm' ps ps' d tv=some tv):=zH (by simp[stStep,hn]);have hn1:(nm == nm')=true:=(by simp[hn]);have hn2:(nm != nm')=false:=(by simp[hn]);clear HNO HYES hn;go_wp2_with fail;go_meet;exact⟨d,tv,rfl,by omega,by omega,zH (by simp),HST,SB,zH (Oth.refl _ _)⟩
      have HN:=zH (HNO.o (by simp[stStep,hn]));have hn1:(nm == nm')=false:=(by simp[hn]);have hn2:(nm != nm')=true:=(by simp[hn]);clear HNO HYES hn;go_wp2_with fail;go_ret;exact HN.o _ OW.o
     ·have hps1:=hps (.inl rfl);have hps1':=hps' (.inl rfl);clear hps hps';by_cases hneg:ps-d<0
      ·have hwq:IntKind.i64.wrap (ps-d)=ps-d:=Zi _ (by omega);have hd1:decide (ps-d<0)=true:=Zt hneg;by_cases hp:ps=ps'
       ·have HST:Hid (stStep ks cr 5 nm nm' ps ps' d tv=some tv):=zH (by unfold stStep;rw[if_neg (by decide),if_pos rfl,if_pos hneg,if_pos hp]);have hp1:(ps == ps')=true:=(by simp[hp]);have hp2:(ps != ps')=false:=(by simp[hp]);clear HNO HYES hp;go_wp2_with fail;go_meet;exact⟨d,tv,rfl,by omega,by omega,zH (by simp),HST,SB,zH (Oth.refl _ _)⟩
       have HN:=zH (HNO.o (by unfold stStep;rw[if_neg (by decide),if_pos rfl,if_pos hneg,if_neg hp]));have hp1:(ps == ps')=false:=(by simp[hp]);have hp2:(ps != ps')=true:=(by simp[hp]);clear HNO HYES hp;go_wp2_with fail;go_ret;exact HN.o _ OW.o
      obtain⟨q,hq⟩:∃q:Nat,ps-d=q:=⟨(ps-d).toNat,by omega⟩;have hwq:IntKind.i64.wrap (ps-d)=(q:Int):=(by rw[Zi _ (by omega)];exact hq);by_cases hqc:q<cr
      ·have hq0:(0:Int)<=(q:Int):=(by omega);have hq1:(q:Int)<(cr:Int):=(by omega);have hq2:decide ((q:Int)<(cr:Int))=true:=Zt hq1;have hq3:decide ((q:Int)<0)=false:=Zu (by omega);obtain⟨cq,fq⟩:=SB.o.cell hqc;have E0:Hid (stStep ks cr 5 nm nm' ps ps' d tv=if ps'-d<0\/kindOf ks (ps'-d)≠2\/(0<=tv.getD q 0/\tv.getD q 0≠ps'-d) then none else some (tv.set q (ps'-d))):=zH (by
        unfold stStep;rw[if_neg (by decide),if_pos rfl,if_neg hneg,if_pos (by omega),hq];rfl)
       by_cases hjn:ps'-d<0
       ·have HN:=zH (HNO.o (by rw[E0.o,if_pos (.inl hjn)]));have hwj:IntKind.i64.wrap (ps'-d)=ps'-d:=Zi _ (by omega);have hj1:decide (ps'-d<0)=true:=Zt hjn;clear HNO HYES E0;go_wp2_with fail;go_ret;exact HN.o _ OW.o
       obtain⟨j,hj⟩:∃j:Nat,ps'-d=j:=⟨(ps'-d).toNat,by omega⟩;rw[hj] at E0;have hwj:IntKind.i64.wrap (ps'-d)=(j:Int):=(by rw[Zi _ (by omega)];exact hj);have hj1:decide ((j:Int)<0)=false:=Zu (by omega);have CK:=zH (oKind_any ks A0 c0 (j:Int) Wb (by omega) hks (HB0.o.below SB.o.below));obtain⟨kj,hkj⟩:∃kj,kindOf ks (j:Int)=kj:=⟨_,rfl⟩;obtain⟨z,hz⟩:∃z,tv.getD q 0=z:=⟨_,rfl⟩;rw[hkj] at CK E0;rw[hz] at cq E0;clear hkj hz;by_cases hk5:kj=2
       ·subst hk5;by_cases hz0:0<=z
        ·have hz1:decide (0<=z)=true:=Zt hz0;have hz2:decide (z≥0)=true:=Zt hz0;by_cases hzj:z=(j:Int)
         ·have HST:Hid (stStep ks cr 5 nm nm' ps ps' d tv=some (tv.set q (j:Int))):=zH (by rw[E0.o,if_neg (by rintro (h | h | h);omega;exact h rfl;exact h.2 hzj)]);have hzj1:(z == (j:Int))=true:=(by simp[hzj]);have hzj2:(z != (j:Int))=false:=(by simp[hzj]);clear HNO HYES E0 hzj;go_wp2_with fail;refine CK.o.mono ?_;rintro e w2⟨rfl,rfl⟩;go_wp2_with fail;go_meet;exact⟨d,_,rfl,by omega,by omega,zH (by simp),HST,zH (SB.o.set q _),zH (Oth.set _ _)⟩
         have HN:=zH (HNO.o (by rw[E0.o,if_pos (.inr (.inr ⟨hz0,hzj⟩))]));have hzj1:(z == (j:Int))=false:=(by simp[hzj]);have hzj2:(z != (j:Int))=true:=(by simp[hzj]);clear HNO HYES E0 hzj;go_wp2_with fail;refine CK.o.mono ?_;rintro e w2⟨rfl,rfl⟩;go_wp2_with fail;go_ret;exact HN.o _ OW.o
        have HST:Hid (stStep ks cr 5 nm nm' ps ps' d tv=some (tv.set q (j:Int))):=zH (by rw[E0.o,if_neg (by rintro (h | h | h);omega;exact h rfl;exact hz0 h.1)]);have hz1:decide (0<=z)=false:=Zu hz0;have hz2:decide (z≥0)=false:=Zu hz0;clear HNO HYES E0 hz0;go_wp2_with fail;refine CK.o.mono ?_;rintro e w2⟨rfl,rfl⟩;go_wp2_with fail;go_meet;exact⟨d,_,rfl,by omega,by omega,zH (by simp),HST,zH (SB.o.set q _),zH (Oth.set _ _)⟩
       have HN:=zH (HNO.o (by rw[E0.o,if_pos (.inr (.inl hk5))]));have hk6:(kj == 2)=false:=(by simpa using hk5);have hk7:(kj != 2)=true:=(by simpa using hk5);clear HNO HYES E0 hk5;go_wp2_with fail;refine CK.o.mono ?_;rintro e w2⟨rfl,rfl⟩;go_wp2_with fail;go_ret;exact HN.o _ OW.o
      have hq2:decide ((q:Int)<(cr:Int))=false:=Zu (by omega);have hq3:decide ((q:Int)<0)=false:=Zu (by omega);have hwc:IntKind.i64.wrap (ps-(cr:Int))=ps-(cr:Int):=Zi _ (by omega);have E0:Hid (stStep ks cr 5 nm nm' ps ps' d tv=if ps'=ps-(cr:Int) then some tv else none):=zH (by
       unfold stStep;rw[if_neg (by decide),if_pos rfl,if_neg hneg,if_neg (by omega)])
      by_cases hp:ps'=ps-(cr:Int)
      ·have HST:Hid (stStep ks cr 5 nm nm' ps ps' d tv=some tv):=zH (by rw[E0.o,if_pos hp]);have hp1:(ps' == ps-(cr:Int))=true:=(by simp[hp]);have hp2:(ps' != ps-(cr:Int))=false:=(by simp[hp]);clear HNO HYES E0 hp;go_wp2_with fail;go_meet;exact⟨d,tv,rfl,by omega,by omega,zH (by simp),HST,SB,zH (Oth.refl _ _)⟩
      have HN:=zH (HNO.o (by rw[E0.o,if_neg hp]));have hp1:(ps' == ps-(cr:Int))=false:=(by simp[hp]);have hp2:(ps' != ps-(cr:Int))=true:=(by simp[hp]);clear HNO HYES E0 hp;go_wp2_with fail;go_ret;exact HN.o _ OW.o
     by_cases hp:ps=ps'
     ·have HST:Hid (stStep ks cr 6 nm nm' ps ps' d tv=some tv):=zH (by simp[stStep,hp]);have hp1:(ps == ps')=true:=(by simp[hp]);have hp2:(ps != ps')=false:=(by simp[hp]);clear HNO HYES hp;go_wp2_with fail;go_meet;exact⟨d,tv,rfl,by omega,by omega,zH (by simp),HST,SB,zH (Oth.refl _ _)⟩
     have HN:=zH (HNO.o (by simp[stStep,hp]));have hp1:(ps == ps')=false:=(by simp[hp]);have hp2:(ps != ps')=true:=(by simp[hp]);clear HNO HYES hp;go_wp2_with fail;go_ret;exact HN.o _ OW.o
    obtain⟨d2,tv2,rfl,hd1,hd2,HD,HST,HS2,HO2⟩:=hcut;have HEQ:=zH (HYES.o d2 tv2 HST.o HD.o);have HNE:=zJ (show W.heap.size≠G by omega) (show Wa.heap.size≠G by omega);clear y0 y1 y2 y3 z0 z1 z2 z3 c1 c2 c3 HNO HYES HD HST hps hps' hk4 hWa hWb;obtain⟨y0,y1,y2,y3⟩:=cells4t (HO2.o.heap QA.o HNE.o.1);go_wp2_with fail;go_loopw [108] (fun i wr=>∃(j:Nat)(tv3:List Int),j<=xs.length/\i=zI j/\Hid (Raw.sts ks cr xs ys d2 tv2=Raw.sts ks cr (xs.drop j) (ys.drop j) d2 tv3)/\Hid (StS w0 ks A0 c0 cr B1 B2 B3 B4 G wr tv3)/\Hid (Oth G Wb wr)) (fun i _=>xs.length-(intOf i).toNat);case atStart=>exact⟨0,tv2,by omega,rfl,zH (by rw[List.drop_zero,List.drop_zero]),HS2,HO2⟩
    clear y0 y1 y2 y3 HS2 HO2;obtain⟨j,tv3,hj,rfl,HQ,HS,HO⟩:=hrel;obtain⟨y0,y1,y2,y3⟩:=cells4t (HO.o.heap QA.o HNE.o.1);obtain⟨z0,z1,z2,z3⟩:=cells4t (HO.o.heap QB.o HNE.o.2);have c4:=zC HS.o.b4 0;simp at c4;by_cases hlt:j<xs.length
    ·have hlt':j<ys.length:=(by have:=HL.o;omega);obtain⟨b,o,k1,n1,p1,us,B,cc1,rfl,hb,ht,d0,dd1,dd2,dd3,hcu,hB,hT⟩:=HA.o.at_ hlt;obtain⟨b',o',k2,n2,p2,us',B',cc2,rfl,hb',ht',e0,e1,e2,e3,hcu',hB',hT'⟩:=HA'.o.at_ hlt';have hmem:=Raw.sizes_mem xs xs[j] (Ze _);have hi0:=zP j;have hi1:(j:Int)<(xs.length:Int):=(by omega);have hi2:(j:Int)<(ys.length:Int):=(by omega);have HBL:=zH HS.o.below;have f0:=(HBL.o.cell (p:=⟨b,o+j*4,none⟩) hb).trans d0;have f1:=(HBL.o.cell (p:=⟨b,o+j*4+1,none⟩) hb).trans dd1;have f2:=(HBL.o.cell (p:=⟨b,o+j*4+2,none⟩) hb).trans dd2;have f3:=(HBL.o.cell (p:=⟨b,o+j*4+3,none⟩) hb).trans dd3;have g0:=(HBL.o.cell (p:=⟨b',o'+j*4,none⟩) hb').trans e0;have g1:=(HBL.o.cell (p:=⟨b',o'+j*4+1,none⟩) hb').trans e1;have g2:=(HBL.o.cell (p:=⟨b',o'+j*4+2,none⟩) hb').trans e2;have g3:=(HBL.o.cell (p:=⟨b',o'+j*4+3,none⟩) hb').trans e3;have CALL:=zH (IH.o xs[j] ys[j] _ _ d2 tv3 wr.drew (by omega) (by omega) (by omega) (HOX.o j hlt) (HOY.o j hlt') hT hT' (HS.o.wide (zB _ _).drew));have HQ2:=zH (HQ.o.trans (sts_drop hlt hlt'));obtain⟨r,hr⟩:∃r,Raw.st ks cr xs[j] ys[j] d2 tv3=r:=⟨_,rfl⟩;rw[hr] at CALL HQ2;clear hr hB hB' ht ht' hT hT' d0 dd1 dd2 dd3 e0 e1 e2 e3 HS HQ;go_wp2_with fail;refine Zs 12 ?_;simp only[Zc,List.take_zero,List.drop_succ_cons,List.drop_zero];change wpStill Tryz.prog _ wr.drew _ _ _;repeat still_step
     try refine wpStill_nil ?_
     change wpList _ _ _ _ _ wr.drew;go_wp2_with fail;refine CALL.o.mono ?_;rintro e w1⟨(⟨hn,rfl⟩ | ⟨tv4,hs4,rfl,S4⟩),o4⟩
     ·have HN:Hid (StAns w0 ks A0 c0 cr B1 B2 B3 B4 G W ((Raw.node kd nm ps xs).st ks cr (.node kd nm' ps' ys) d tv) (.returned (.bool false)) w1):=zH (StAns.no (by rw[HEQ.o,HQ2.o,hn]) ((OW.o.trans HO.o).trans ((Oth.refl _ _).drew.trans o4)));clear hn o4;go_wp2_with fail;go_ret;exact HN.o
     have HQ3:=zH (show Raw.sts ks cr xs ys d2 tv2=Raw.sts ks cr (xs.drop (j+1)) (ys.drop (j+1)) d2 tv4 by rw[HQ2.o,hs4]);have HS4:=zH S4;have HO4:=zH (HO.o.trans ((Oth.refl _ _).drew.trans o4));clear hs4 S4 o4;go_wp2_with fail;go_roundw;case rel=>exact⟨j+1,tv4,by omega,by go_num,HQ3,HS4,HO4⟩
     case measure=>simp[intOf];omega
    obtain rfl:j=xs.length:=(by omega);have HZ:Hid (StAns w0 ks A0 c0 cr B1 B2 B3 B4 G W ((Raw.node kd nm ps xs).st ks cr (.node kd nm' ps' ys) d tv) (.returned (.bool true)) wr):=zH (by
     refine⟨.inr ⟨tv3,?_,rfl,HS.o⟩,OW.o.trans HO.o⟩;rw[HEQ.o,HQ.o,List.drop_length,HL.o,List.drop_length,Raw.sts];all_goals intros;simp_all)
    clear HQ;go_wp2_with fail;go_ret;exact HZ.o
   have hl2:((xs.length:Int) != (ys.length:Int))=true:=(by simp;omega);have hl3:(xs.length == ys.length)=false:=(by simpa using hl);have HR:=zH (StAns.no (w0:=w0) (ks:=ks) (A0:=A0) (c0:=c0) (cr:=cr) (B1:=B1) (B2:=B2) (B3:=B3) (B4:=B4) (show(Raw.node kd nm ps xs).st ks cr (.node kd nm' ps' ys) d tv=none by rw[st_node,if_pos (.inr hl)]) OW.o);clear hl;go_enter Tryz.func72,Tryz.ntmps72;go_wp2_with fail;go_ret;exact HR.o
  have hk2:(kd != kd')=true:=by simpa using hk
  have hk3:(kd == kd')=false:=by simpa using hk
  have HR:=zH (StAns.no (w0:=w0) (ks:=ks) (A0:=A0) (c0:=c0) (cr:=cr) (B1:=B1) (B2:=B2) (B3:=B3) (B4:=B4) (show(Raw.node kd nm ps xs).st ks cr (.node kd' nm' ps' ys) d tv=none by rw[st_node,if_pos (.inl hk)]) OW.o);clear hk;go_enter Tryz.func72,Tryz.ntmps72;go_wp2_with fail;go_ret;exact HR.o
end
end Go.Proofs.YtadjpadieljjlaaGreat
namespace Lfc
def Raw.stands(ks:List Int)(cr:Nat)(s t:Raw):Bool:=(s.st ks cr t 0 (List.replicate cr (-1))).isSome
theorem rep_set(a b:Int)(n k:Nat)(h:k<n):(List.replicate k a++List.replicate (n-k) b).set k a=List.replicate (k+1) a++List.replicate (n-(k+1)) b:=by
 rw[List.set_append_right _ _ (by simp)];obtain⟨m,hm⟩:∃m,n-k=m+1:=⟨n-k-1,by omega⟩;rw[hm,List.length_replicate,Nat.sub_self,List.replicate_succ,List.set_cons_zero,show n-(k+1)=m by omega,List.replicate_succ',List.append_assoc];rfl
end Lfc
namespace Go.Proofs.YtadjpadieljjlaaGreat
open Go.RowKit _root_.Lfc
theorem intInfo:(Tryz.prog.info? 3).map (fun i=>(i.zero,i.size,i.bytes))=some (some (.int .i64 0),1,8):=by kernel_rfl
theorem made_ints(n:Nat):madeCells (Value.int .i64 0).cells n=(ints (List.replicate n 0)).toArray:=by
 apply Array.ext
 ·simp[madeCells,ints]
 intro i h1 h2;simp[madeCells,ints,Value.cells];rw[Nat.mod_one];rfl
theorem ints_cell{W:World}{G q:Nat}{tv:List Int}{t:TypeId}(h:W.heap[G]?=some (.cells (ints tv).toArray t (0,0)))(hq:q<tv.length):W.cell? ⟨G,q,none⟩=some (.int .i64 (tv.getD q 0)):=by
 rw[zC h q];simp[ints,List.getD_eq_getElem?_getD,Zg hq]
theorem makeInts(n:Nat)(hn:n≤1000000)(W:World):(Instr.makeSlice 22 (.int .i64 (n:Int)) (.int .i64 (n:Int))).run Tryz.prog W=.ok (.slice (some ⟨W.heap.size,0,none⟩) n n) (W.alloc (.cells (ints (List.replicate n 0)).toArray 3)):=by
 obtain⟨i0,hi,hz0,hz1,hz2⟩:=info_parts intInfo;have hr:=run_make (P:=Tryz.prog) W 22 3 i0 (.int .i64 0) Tryz.underlying22 hi hz0 .i64 .i64 n n (by omega) (by omega) (by rw[hz2];omega) (by omega);simp only[Int.toNat_natCast,hz1,Nat.mul_one,made_ints] at hr;exact hr
theorem oStands_any(s t:Raw)(vs vt:Value)(cr:Nat)(ks:List Int)(A0:Option Addr)(c0:Nat)(w:World)(hcr:cr<=1000000)(hks:ks.length<=1000000)(hs:s.size<=1000000)(hso:s.obj=true)(hto:t.obj=true)(hA0:IntsO w A0 ks)(hv:TreeV w s vs)(hv':TreeV w t vt) :
  Calls Tryz.prog 45 #[vs,vt,zI (cr:Int),.slice A0 ks.length c0] w fun e w'=>e=.returned (.bool (Raw.stands ks cr s t))/\zb w w':=by
 have he:=enters_st;have HV:=zH hv;have HV':=zH hv';obtain⟨kd,nm,ps,xs,rfl⟩:∃kd nm ps xs,s=.node kd nm ps xs:=by
  cases s with
  |node kd nm ps xs=>exact⟨kd,nm,ps,xs,rfl⟩
 obtain⟨kd',nm',ps',ys,rfl⟩:∃kd nm ps xs,t=.node kd nm ps xs:=by
  cases t with
  |node kd nm ps xs=>exact⟨kd,nm,ps,xs,rfl⟩
 obtain⟨A,c,rfl,hc,hA⟩:=hv.open_;obtain⟨A',c',rfl,hc',hA'⟩:=hv'.open_;have hmk:=fun W=>makeInts cr hcr W;obtain⟨w1,hw1⟩:∃w1,w.alloc (.cells (zT kd nm ps A xs c) 51)=w1:=⟨_,rfl⟩;obtain⟨w2,hw2⟩:∃w2,w1.alloc (.cells (zT kd' nm' ps' A' ys c') 51)=w2:=⟨_,rfl⟩;obtain⟨w3,hw3⟩:∃w3,w2.alloc (.cells #[zI (cr:Int)] 3)=w3:=⟨_,rfl⟩;obtain⟨w4,hw4⟩:∃w4,w3.alloc (.cells #[.slice A0 ks.length c0] 22)=w4:=⟨_,rfl⟩;obtain⟨w5,hw5⟩:∃w5,w4.alloc (.cells (ints (List.replicate cr 0)).toArray 3)=w5:=⟨_,rfl⟩;obtain⟨w6,hw6⟩:∃w6,w5.alloc (.cells #[.slice (some ⟨w4.heap.size,0,none⟩) cr cr] 22)=w6:=⟨_,rfl⟩;have b1:=zG hw1;have b2:=zG hw2;have b3:=zG hw3;have b4:=zG hw4;have b5:=zG hw5;have b6:=zG hw6;have q1:=zQ hw1;have q2:=zQ hw2;have q3:=zQ hw3;have q4:=zQ hw4;have q5:=zQ hw5;have q6:=zQ hw6;have l1:=zL q1;have l2:=zL q2;have l3:=zL q3;have l4:=zL q4;have l5:=zL q5;have l6:=zL q6;have b46:zb w4 w6:=b5.trans (b6.mono (by omega));have b36:zb w3 w6:=b4.trans (b46.mono (by omega));have b26:zb w2 w6:=b3.trans (b36.mono (by omega));have b16:zb w1 w6:=b2.trans (b26.mono (by omega));have b06:zb w w6:=b1.trans (b16.mono (by omega));have Q1:=zH ((b16.block _ (by omega)).trans q1);have Q2:=zH ((b26.block _ (by omega)).trans q2);have Q3:=zH ((b36.block _ (by omega)).trans q3);have Q4:=zH ((b46.block _ (by omega)).trans q4);have Q5:=zH ((b6.block _ (by omega)).trans q5);have Q6:=zH q6;have B06:=zH b06;have HOB:=zJ hso hto;have HA0:=zH hA0;have HSZ:=zH hs;have y3:=zC q3 0;have y3a:zc w4 w2.heap.size 0 (zI (cr:Int)):=zC ((b4.block _ (by omega)).trans q3) 0;have y6:=zC Q6.o 0;simp at y3 y6;clear hv hv' hA hA' hA0 hso hto b1 b2 b3 b4 b5 b6 q1 q2 q3 q4 q5 q6 b46 b36 b26 b16 b06 hs;have HW6:=zH hw6;clear hw6;go_enter Tryz.func45,Tryz.ntmps45;go_upto_region 2 with fail;rw[HW6.o];clear HW6 hmk y3 y3a hw1 hw2 hw3 hw4 hw5;go_wp2_with fail;go_loopw [16] (fun i wr=>∃k:Nat,k<=cr/\i=zI (k:Int)/\Hid (wr.heap[w4.heap.size]?=some (.cells (ints (List.replicate k (-1)++List.replicate (cr-k) 0)).toArray 3 (0,0))/\Oth w4.heap.size w6 wr)) (fun i _=>cr-(intOf i).toNat);case atStart=>exact⟨0,by omega,rfl,zH ⟨by simpa using Q5.o,Oth.refl _ _⟩⟩
 clear y6;obtain⟨k,hk,rfl,HR⟩:=hrel;have y6:=zC (HR.o.2.heap Q6.o (by omega)) 0;simp at y6;by_cases hlt:k<cr
 ·have hi0:=zP k;have hi1:(k:Int)<(cr:Int):=by omega
  have yk:zc wr w4.heap.size k (zI ((List.replicate k (-1:Int)++List.replicate (cr-k) 0).getD k 0)):=ints_cell HR.o.1 (by simp;omega);have fk:=zF HR.o.1 k;generalize (List.replicate k (-1:Int)++List.replicate (cr-k) 0).getD k 0=zk at yk;have HN:Hid ((wr.setCell ⟨w4.heap.size,k,none⟩ (zI (-1))).heap[w4.heap.size]?=some (.cells (ints (List.replicate (k+1) (-1)++List.replicate (cr-(k+1)) 0)).toArray 3 (0,0))/\Oth w4.heap.size w6 (wr.setCell ⟨w4.heap.size,k,none⟩ (zI (-1)))):=zH ⟨by
   rw[<-rep_set _ _ _ _ hlt];simp[World.setCell,zM,HR.o.1,ints,List.map_set],HR.o.2.trans (Oth.set _ _)⟩
  clear HR;go_wp2_with fail;go_roundw;case rel=>exact⟨k+1,by omega,by go_num,HN⟩
  case measure=>simp[intOf];omega
 obtain rfl:k=cr:=by omega
 obtain⟨wz,hwz⟩:∃wz,wr.alloc (.cells #[.func (.func 72) #[] #[.pointer (some ⟨w2.heap.size,0,none⟩),.pointer (some ⟨w3.heap.size,0,none⟩),.pointer (some ⟨w5.heap.size,0,none⟩),.pointer (some ⟨wr.heap.size,0,none⟩)]] 129)=wz:=⟨_,rfl⟩;have bz:=zG hwz;have qz:=by have:=zW wr (.cells #[.func (.func 72) #[] #[.pointer (some ⟨w2.heap.size,0,none⟩),.pointer (some ⟨w3.heap.size,0,none⟩),.pointer (some ⟨w5.heap.size,0,none⟩),.pointer (some ⟨wr.heap.size,0,none⟩)]] 129);rw[hwz] at this;exact this
 have ho:=HR.o.2;have hsr:=ho.size;have k1:=ho.heap Q1.o (show w.heap.size≠w4.heap.size by omega);have k2:=ho.heap Q2.o (show w1.heap.size≠w4.heap.size by omega);have k3:=ho.heap Q3.o (show w2.heap.size≠w4.heap.size by omega);have k4:=ho.heap Q4.o (show w3.heap.size≠w4.heap.size by omega);have k6:=ho.heap Q6.o (show w5.heap.size≠w4.heap.size by omega);have bwz:zb w wz:=(Oth.below B06.o ho (by omega) (by omega)).trans (bz.mono (by omega));have SZ:StS w ks A0 c0 k w2.heap.size w3.heap.size w5.heap.size wr.heap.size w4.heap.size wz (List.replicate k (-1)):=by
  refine⟨bwz,(bz.block _ (by omega)).trans k3,(bz.block _ (by omega)).trans k4,(bz.block _ (by omega)).trans k6,qz,?_,by simp,by omega⟩;have:=HR.o.1;rw[Nat.sub_self,List.replicate_zero,List.append_nil] at this;exact(bz.block _ (by omega)).trans this
 obtain⟨y0,y1,y2,y3⟩:=cells4t ((bz.block _ (by omega)).trans k1);obtain⟨z0,z1,z2,z3⟩:=cells4t ((bz.block _ (by omega)).trans k2);have c4:=zC qz 0;simp at c4;have CALL:=zH (stWalk_upto w ks A0 c0 k _ _ _ _ _ hcr hks HA0.o _ HSZ.o _ _ _ _ 0 _ wz (zN _) (by omega) (by have:=HSZ.o;omega) HOB.o.1 HOB.o.2 HV.o HV'.o SZ);have HBW:=zH bwz;have HWZ:=zH hwz;have hs04:w.heap.size<=w4.heap.size:=by omega
 have hsz:=bwz.size;obtain⟨r,hr⟩:∃r,(Raw.node kd nm ps xs).st ks k (.node kd' nm' ps' ys) 0 (List.replicate k (-1))=r:=⟨_,rfl⟩;have HST:=zH (show Raw.stands ks k (.node kd nm ps xs) (.node kd' nm' ps' ys)=r.isSome by rw[Raw.stands,hr]);rw[hr] at CALL;clear hwz bz qz ho k1 k2 k3 k4 k6 bwz SZ hr HR;go_upto_region 9 with fail;rw[HWZ.o];go_wp2_with fail;refine CALL.o.mono ?_;rintro e w9⟨(⟨hn,rfl⟩ | ⟨tv4,hs4,rfl,S4⟩),o4⟩
 ·go_wp2_with fail;go_ret;exact⟨by rw[HST.o,hn];rfl,Oth.below HBW.o o4 hs04 hsz⟩
 go_wp2_with fail;go_ret;exact⟨by rw[HST.o,hs4];rfl,Oth.below HBW.o o4 hs04 hsz⟩
end Go.Proofs.YtadjpadieljjlaaGreat
namespace Lfc
def Raw.isO(t:Raw):Bool:=t.obj && t.small
def Raw.fit(ks:List Int)(t:Raw):List Int→Raw→Nat→Bool
 |[],s,cr=>Raw.stands ks cr s t
 |i :: r,.node k n p xs,cr=>if Raw.pas ks cr (.node k n p xs)=false∨i<0∨(xs.length:Int)≤i then false else match xs[i.toNat]? with
  |none=>false
  |some y=>Raw.fit ks t r y (if k=3 then cr+1 else cr)
def Raw.fits(ks:List Int)(t u:Raw)(path:List Int):Bool:=t.isO && u.isO && Raw.fit ks t path u 0
theorem Raw.fit_no{ks:List Int}{t:Raw}{i:Int}{r:List Int}{k p:Int}{n:List UInt8}{xs:List Raw}{cr:Nat}(h:Raw.pas ks cr (.node k n p xs)=false∨i<0∨(xs.length:Int)≤i):Raw.fit ks t (i :: r) (.node k n p xs) cr=false:=by
 rw[Raw.fit,if_pos h]
theorem Raw.fit_go{ks:List Int}{t:Raw}{i:Nat}{r:List Int}{k p:Int}{n:List UInt8}{xs:List Raw}{cr:Nat}(h:Raw.pas ks cr (.node k n p xs)=true)(hi:i<xs.length):Raw.fit ks t ((i:Int) :: r) (.node k n p xs) cr=Raw.fit ks t r xs[i] (if k=3 then cr+1 else cr):=by
 rw[Raw.fit,if_neg (by rintro (h1 | h1 | h1);rw[h] at h1;cases h1;omega;omega),Int.toNat_natCast,List.getElem?_eq_getElem hi]
theorem Raw.obj_args{k p:Int}{n:List UInt8}{xs:List Raw}(h:(Raw.node k n p xs).obj=true)(i:Nat)(hi:i<xs.length):xs[i].obj=true:=by
 rw[Raw.obj] at h;have:Raw.objs xs=true:=by
  repeat' split at h
  all_goals first | (cases h;done) | (simp at h;exact h.2) | (simp at h;exact h.2.2)
 exact(objs_spec xs).1 this i hi
end Lfc
namespace Go.Proofs.YtadjpadieljjlaaGreat
open Go.RowKit _root_.Lfc
theorem tIsO_any(t:Raw)(v:Value)(w:World)(hsz:t.size<=1000000)(hv:TreeV w t v) :
  Calls Tryz.prog 43 #[v] w fun e w'=>e=.returned (.bool t.isO)/\zb w w':=by
 have HT:=zH (show t.isO=(t.obj && t.small) from rfl);have HV:=zH hv;obtain⟨A,c,kd,nm,ps,ts,hT,rfl⟩:∃A c kd nm ps ts,t=.node kd nm ps ts/\v=.agg (zT kd nm ps A ts c):=by
  obtain⟨kd,nm,ps,ts⟩:=t;obtain⟨A,c,rfl,hc,hA⟩:=hv.open_;exact⟨A,c,kd,nm,ps,ts,rfl,rfl⟩
 clear hT hv;obtain⟨w1,hw1⟩:∃w1,w.alloc (.cells (zT kd nm ps A ts c) 51)=w1:=⟨_,rfl⟩;have b01:=zG hw1;have q1:=zQ hw1;have s01:=b01.size;obtain⟨y0,y1,y2,y3⟩:=cells4t q1;have Q1:=zH q1;have CO:=zH (tObj_upto _ (by omega) t _ w1 (zN _) (HV.o.below b01));have CS:=zH (fun W (hW:zb w1 W)=>tSmall_any t _ W (by omega) (HV.o.below (b01.trans (hW.mono b01.size))));rw[HT.o];clear HT q1;generalize t.obj=qo at *;generalize t.small=qs at *;cases qo
 ·go_enter Tryz.func43,Tryz.ntmps43;go_wp2_with fail;refine CO.o.mono ?_;rintro e w2⟨rfl,b2⟩;go_wp2_with fail;go_ret;exact⟨rfl,b01.trans (b2.mono s01)⟩
 go_enter Tryz.func43,Tryz.ntmps43;go_wp2_with fail;refine CO.o.mono ?_;rintro e w2⟨rfl,b2⟩;obtain⟨y0,y1,y2,y3⟩:=cells4t ((b2.block _ (zL Q1.o)).trans Q1.o);go_wp2_with fail;refine(CS.o _ b2).mono ?_;rintro e w3⟨rfl,b3⟩;cases qs;all_goals
  go_wp2_with fail;go_ret;exact⟨rfl,b01.trans ((b2.trans (b3.mono b2.size)).mono s01)⟩
structure FitI(w w0:World)(Bt Bu:Nat)(ks:List Int)(t:Raw)(path:List Int)(tot:Bool)(top j cr:Nat)(kd ps:Int)(nm:List UInt8)(xs:List Raw)(A:Option Addr)(c:Nat)(wr:World):Prop where
 fit:tot=Raw.fit ks t (path.drop j) (.node kd nm ps xs) cr
 box:wr.heap[Bu]?=some (.cells #[.int .i64 kd,S nm,.int .i64 ps,.slice A xs.length c] 51 (0,0))
 v:TreeV w (.node kd nm ps xs) (.agg #[.int .i64 kd,S nm,.int .i64 ps,.slice A xs.length c])
 obj:(Raw.node kd nm ps xs).obj=true
 size:(Raw.node kd nm ps xs).size≤top
 oth:Oth Bu w0 wr
theorem oFits_any(t u:Raw)(vt vu:Value)(path:List Int)(A1:Option Addr)(c1:Nat)(ks:List Int)(A0:Option Addr)(c0:Nat)(w:World)(hpl:path.length<=1000000)(hks:ks.length<=1000000)(ht:t.size<=1000000)(hu:u.size<=1000000)(hA1:IntsO w A1 path)(hA0:IntsO w A0 ks)(hv:TreeV w t vt)(hv':TreeV w u vu) :
  Calls Tryz.prog 32 #[vt,vu,.slice A1 path.length c1,.slice A0 ks.length c0] w fun e w'=>e=.returned (.bool (Raw.fits ks t u path))/\zb w w':=by
 have HV:=zH hv;have HV':=zH hv';have HF:Hid (Raw.fits ks t u path=(t.isO && u.isO && Raw.fit ks t path u 0)):=zH rfl;obtain⟨A,c,kd,nm,ps,xs,hT,rfl⟩:∃A c kd nm ps xs,t=.node kd nm ps xs/\vt=.agg (zT kd nm ps A xs c):=by
  obtain⟨kd,nm,ps,ts⟩:=t;obtain⟨A,c,rfl,hc,hA⟩:=hv.open_;exact⟨A,c,kd,nm,ps,ts,rfl,rfl⟩
 obtain⟨A',c',kd',nm',ps',ys,hU,rfl⟩:∃A c kd nm ps xs,u=.node kd nm ps xs/\vu=.agg (zT kd nm ps A xs c):=by
  obtain⟨kd,nm,ps,ts⟩:=u;obtain⟨A,c,rfl,hc,hA⟩:=hv'.open_;exact⟨A,c,kd,nm,ps,ts,rfl,rfl⟩
 obtain⟨w1,hw1⟩:∃w1,w.alloc (.cells (zT kd nm ps A xs c) 51)=w1:=⟨_,rfl⟩;obtain⟨w2,hw2⟩:∃w2,w1.alloc (.cells (zT kd' nm' ps' A' ys c') 51)=w2:=⟨_,rfl⟩;have b1:=zG hw1;have b2:=zG hw2;have q1:=zQ hw1;have q2:=zQ hw2;have l1:=zL q1;have l2:=zL q2;have b02:zb w w2:=b1.trans (b2.mono (by omega));have Q1:=zH ((b2.block _ l1).trans q1);have Q2:=zH q2;have B02:=zH b02;have HA1:=zH hA1;have HA0:=zH hA0;have HT:=zH hT;have HU:=zH hU;have s02:w.heap.size<=w2.heap.size:=by omega
 obtain⟨y0,y1,y2,y3⟩:=cells4t Q1.o;have CT:=zH (tIsO_any t _ w2 ht (HV.o.below b02));have CU:=zH (fun W (hW:zb w2 W)=>tIsO_any u _ W hu (HV'.o.below (b02.trans (hW.mono s02))));have HOT:Hid (t.isO=true->t.obj=true):=zH (fun h=>by rw[Raw.isO,Za] at h;exact h.1);have HOU:Hid (u.isO=true->u.obj=true):=zH (fun h=>by rw[Raw.isO,Za] at h;exact h.1);rw[HF.o];clear HF hT hU hv hv' hA0 hA1 b1 b2 q1 q2 b02;obtain⟨qt,hqt⟩:∃qt,t.isO=qt:=⟨_,rfl⟩;obtain⟨qu,hqu⟩:∃qu,u.isO=qu:=⟨_,rfl⟩;rw[hqt] at CT HOT ⊢;rw[hqu] at CU HOU ⊢;clear hqt hqu;cases qt
 ·have HE:Hid ((false && qu && Raw.fit ks t path u 0)=false):=zH rfl;rw[HE.o];go_enter Tryz.func32,Tryz.ntmps32;go_wp2_with fail;refine CT.o.mono ?_;rintro e w3⟨rfl,b3⟩;go_wp2_with fail;go_ret;exact⟨rfl,B02.o.trans (b3.mono s02)⟩
 have HOT2:=zH (HOT.o rfl);clear HOT;cases qu
 ·have HE:Hid ((true && false && Raw.fit ks t path u 0)=false):=zH rfl;rw[HE.o];go_enter Tryz.func32,Tryz.ntmps32;go_wp2_with fail;refine CT.o.mono ?_;rintro e w3⟨rfl,b3⟩;clear y0 y1 y2 y3;obtain⟨z0,z1,z2,z3⟩:=cells4t ((b3.block _ l2).trans Q2.o);go_wp2_with fail;refine(CU.o _ b3).mono ?_;rintro e w4⟨rfl,b4'⟩;have b4:=b3.trans (b4'.mono b3.size);clear b4' z0 z1 z2 z3;have s4:=b4.size;have B4:=zH b4;go_wp2_with fail;go_ret;exact⟨rfl,B02.o.trans (b4.mono s02)⟩
 have HE:Hid ((true && true && Raw.fit ks t path u 0)=Raw.fit ks t path u 0):=zH rfl;have HOU2:=zH (HOU.o rfl);clear HOU;rw[HE.o];obtain⟨tot,htot⟩:∃tot,Raw.fit ks t path u 0=tot:=⟨_,rfl⟩;rw[htot];have HTOT:=zH htot;clear htot;go_enter Tryz.func32,Tryz.ntmps32;go_wp2_with fail;refine CT.o.mono ?_;rintro e w3⟨rfl,b3⟩;clear y0 y1 y2 y3;obtain⟨z0,z1,z2,z3⟩:=cells4t ((b3.block _ l2).trans Q2.o);go_wp2_with fail;refine(CU.o _ b3).mono ?_;rintro e w4⟨rfl,b4'⟩;have b4:=b3.trans (b4'.mono b3.size);clear b4' z0 z1 z2 z3;have s4:=b4.size;have B4:=zH b4;have I0:Hid (FitI w w4 w.heap.size w1.heap.size ks t path tot u.size 0 0 kd' ps' nm' ys A' c' w4):=zH ⟨by rw[List.drop_zero,<-HU.o];exact HTOT.o.symm,(b4.block _ l2).trans Q2.o,by rw[<-HU.o];exact HV'.o,by rw[<-HU.o];exact HOU2.o,by rw[<-HU.o];exact zN _,Oth.refl _ _⟩;have Q4:=zH ((b4.block _ (by omega)).trans Q1.o);have HW4:=zH (B02.o.trans (b4.mono s02));clear b4 b3;go_wp2_with fail;go_loopw [9,22] (fun x i wr=>∃(j cr:Nat)(kq pq:Int)(nq:List UInt8)(zs:List Raw)(Aq:Option Addr)(cq:Nat),j<=path.length/\cr<=j/\x=zI (cr:Int)/\i=zI (j:Int)/\Hid (FitI w w4 w.heap.size w1.heap.size ks t path tot u.size j cr kq pq nq zs Aq cq wr)) (fun x i _=>path.length-(intOf i).toNat);case atStart=>exact⟨0,0,kd',ps',nm',ys,A',c',by omega,by omega,rfl,rfl,I0⟩
 clear I0;obtain⟨j,cr,kq,pq,nq,zs,Aq,cq,hj,hcr,rfl,rfl,HI⟩:=hrel;have hsw:=HI.o.oth.size;have hbw:zb w wr:=Oth.below HW4.o HI.o.oth (by omega) (by omega);have HBW:=zH hbw;obtain⟨z0,z1,z2,z3⟩:=cells4t HI.o.box;by_cases hlt:j<path.length
 ·obtain⟨b,o,rfl,hb,hx⟩:=HA1.o (by intro h0;rw[h0] at hlt;simp at hlt);have hx1:=(hbw.cell (p:=⟨b,o+j,none⟩) hb).trans (hx j hlt);have hi0:=zP j;have hi1:(j:Int)<(path.length:Int):=by omega
  have hgd:path.getD j 0=path[j]:=by rw[List.getD_eq_getElem?_getD,Zg hlt];rfl
  have HDR:=zH (HI.o.fit.trans (by rw[List.drop_eq_getElem_cons hlt]:_=Raw.fit ks t (path[j] :: path.drop (j+1)) (.node kq nq pq zs) cr));rw[hgd] at hx1;obtain⟨z,hz⟩:∃z,path[j]=z:=⟨_,rfl⟩;rw[hz] at hx1 HDR;have CP:=zH (oPasses_any ks A0 c0 cr _ _ wr (by omega) hks (HA0.o.below hbw) (HI.o.v.below hbw) HI.o.obj);obtain⟨pb,hpb⟩:∃pb,Raw.pas ks cr (.node kq nq pq zs)=pb:=⟨_,rfl⟩;rw[hpb] at CP;have HPB:=zH hpb;clear hx hgd hz hpb hbw;go_wp2_with fail;refine CP.o.mono ?_;rintro e w5⟨rfl,b5⟩;clear z0 z1 z2 z3;have B5:=zH b5;have hq5:=(b5.block _ (zL HI.o.box)).trans HI.o.box;have O5:=zH (HI.o.oth.trans (zE b5));have hs5:=b5.size;have hbw5:=HBW.o.trans (b5.mono HBW.o.size);obtain⟨z0,z1,z2,z3⟩:=cells4t hq5;cases pb
  ·have HN:Hid (tot=false):=zH (HDR.o.trans (Raw.fit_no (.inl HPB.o)));clear HDR hq5 b5;go_wp2_with fail;go_ret;exact⟨by rw[HN.o];rfl,hbw5⟩
  by_cases hz0:z<0
  ·have HN:Hid (tot=false):=zH (HDR.o.trans (Raw.fit_no (.inr (.inl hz0))));have hd1:decide (z<0)=true:=Zt hz0;clear HDR hq5 b5;go_wp2_with fail;go_ret;exact⟨by rw[HN.o];rfl,hbw5⟩
  have hd1:decide (z<0)=false:=Zu hz0;by_cases hzl:(zs.length:Int)<=z
  ·have HN:Hid (tot=false):=zH (HDR.o.trans (Raw.fit_no (.inr (.inr hzl))));have hd2:decide ((zs.length:Int)<=z)=true:=Zt hzl;have hd3:decide (z≥(zs.length:Int))=true:=Zt hzl;clear HDR hq5 b5;go_wp2_with fail;go_ret;exact⟨by rw[HN.o];rfl,hbw5⟩
  obtain⟨q,rfl⟩:∃q:Nat,z=q:=⟨z.toNat,by omega⟩;have hql:q<zs.length:=by omega
  have hd2:decide ((zs.length:Int)<=(q:Int))=false:=Zu hzl;have hd3:decide ((q:Int)≥(zs.length:Int))=false:=Zu hzl;have hq0:=zP q;have hq1:(q:Int)<(zs.length:Int):=by omega
  obtain⟨b',o',k2,n2,p2,us,B',cc2,rfl,hb',ht',e0,e1,e2,e3,hcu',hB',hT'⟩:=HI.o.v.parts.1.at_ hql;have f0:=(hbw5.cell (p:=⟨b',o'+q*4,none⟩) hb').trans e0;have f1:=(hbw5.cell (p:=⟨b',o'+q*4+1,none⟩) hb').trans e1;have f2:=(hbw5.cell (p:=⟨b',o'+q*4+2,none⟩) hb').trans e2;have f3:=(hbw5.cell (p:=⟨b',o'+q*4+3,none⟩) hb').trans e3;obtain⟨s1,s2,s3,s4,g1,g2,g3,g4,⟨r0,r1,r2,r3⟩,⟨t0,t1,t2,t3⟩,hq6,ho6⟩:=tput4 hq5 (zI k2) (S n2) (zI p2) (.slice B' us.length cc2);have hmem:=Raw.sizes_mem zs zs[q] (Ze _);have hobj:=Raw.obj_args HI.o.obj q hql;have hszq:=HI.o.size;rw[Raw.size] at hszq;have HN:∀cr2,cr2=(if kq=3 then cr+1 else cr)->Hid (FitI w w4 w.heap.size w1.heap.size ks t path tot u.size (j+1) cr2 k2 p2 n2 us B' cc2 s4):=fun cr2 h2=>zH (by
   refine⟨?_,hq6,by rw[<-ht'];exact hT',by rw[<-ht'];exact hobj,by rw[<-ht'];omega,O5.o.trans ho6⟩;rw[HDR.o,Raw.fit_go HPB.o hql,ht',h2])
  have HN2:=zH HN;clear HN hq6 ho6 hobj hszq hmem hB' hT' ht' e0 e1 e2 e3 HDR hq5 b5 hz0 hzl;by_cases hk3:kq=3
  ·have hkb:(kq == 3)=true:=(by simp[hk3]);have hwc:IntKind.i64.wrap ((cr:Int)+1)=((cr+1:Nat):Int):=(by rw[Zi _ (by omega)];omega);have HN3:=HN2.o (cr+1) (by rw[if_pos hk3]);clear HN2 hk3;go_wp2_with fail;go_roundw;case rel=>exact⟨j+1,cr+1,k2,p2,n2,us,B',cc2,by omega,by omega,rfl,by go_num,HN3⟩
   case measure=>simp[intOf];omega
  have hkb:(kq == 3)=false:=by simp[hk3]
  have HN3:=HN2.o cr (by rw[if_neg hk3]);clear HN2 hk3;go_wp2_with fail;go_roundw;case rel=>exact⟨j+1,cr,k2,p2,n2,us,B',cc2,by omega,by omega,rfl,by go_num,HN3⟩
  case measure=>simp[intOf];omega
 obtain rfl:j=path.length:=by omega
 obtain⟨y0,y1,y2,y3⟩:=cells4t (HI.o.oth.heap Q4.o (show w.heap.size≠w1.heap.size by omega));have HE2:Hid (tot=Raw.stands ks cr (.node kq nq pq zs) t):=zH (by rw[HI.o.fit,List.drop_length,Raw.fit]);have CS:=zH (oStands_any (.node kq nq pq zs) t _ _ cr ks A0 c0 wr (by omega) hks (by have:=HI.o.size;omega) HI.o.obj HOT2.o (HA0.o.below hbw) (HI.o.v.below hbw) (HV.o.below hbw));rw[<-HE2.o] at CS;clear HI;go_wp2_with fail;refine CS.o.mono ?_;rintro e w5⟨rfl,b5⟩;go_wp2_with fail;go_ret;exact⟨rfl,HBW.o.trans (b5.mono HBW.o.size)⟩
end Go.Proofs.YtadjpadieljjlaaGreat
namespace Lfc
mutual
def Raw.pth(ks:List Int)(t:Raw):Raw→Nat→Option (List Int)
 |.node k n p xs,cr=>if Raw.stands ks cr (.node k n p xs) t=true then some [] else if Raw.pas ks cr (.node k n p xs)=false then none else Raw.pths ks t xs (if k=3 then cr+1 else cr) 0
def Raw.pths(ks:List Int)(t:Raw):List Raw→Nat→Int→Option (List Int)
 |[],_,_=>none
 |a :: r,cr,i=>match Raw.pth ks t a cr with
  |some q=>some (i :: q)
  |none=>Raw.pths ks t r cr (i+1)
end
def Raw.path(ks:List Int)(t u:Raw):Option (List Int):=if t.isO && u.isO then Raw.pth ks t u 0 else none
theorem pths_drop{ks:List Int}{t:Raw}{cr:Nat}{xs:List Raw}{j:Nat}(h:j<xs.length) :
  Raw.pths ks t (xs.drop j) cr (j:Int)=match Raw.pth ks t xs[j] cr with | some q=>some ((j:Int) :: q) | none=>Raw.pths ks t (xs.drop (j+1)) cr ((j+1:Nat):Int):=by
 rw[List.drop_eq_getElem_cons h,Raw.pths];rfl
end Lfc
namespace Go.Proofs.YtadjpadieljjlaaGreat
open Go.RowKit
theorem enters_path:∀args w,(callFunc 44 args).run Tryz.prog w=.ok (.enter 44 args) w:=enters_of Tryz.func44 (by kernel_rfl) rfl
theorem ownBlock_slice(A:Option Addr)(n c:Nat):(Value.slice A n c).ownBlock=A.map (·.block):=by cases A <;> rfl
structure PtK(B:Nat)(W:World)(A:Option Addr)(w':World)(A':Option Addr):Prop where
 blk:A'.map (·.block)=A.map (·.block)∨∃g,A'.map (·.block)=some g∧W.heap.size≤g
 kept:∀b,b<W.heap.size→b≠B→some b≠A.map (·.block)→w'.heap[b]?=W.heap[b]?
 size:W.heap.size≤w'.heap.size
theorem PtK.refl(B:Nat)(W:World)(A:Option Addr):PtK B W A W A:=⟨.inl rfl,fun _ _ _ _=>rfl,zN _⟩
theorem PtK.trans{B:Nat}{W w1 w2:World}{A A1 A2:Option Addr}(h:PtK B W A w1 A1)(k:PtK B w1 A1 w2 A2):PtK B W A w2 A2:=by
 refine⟨?_,fun b hb hB hA=>?_,zR h.size k.size⟩
 ·rcases k.blk with e | ⟨g,e,hg⟩
  ·rw[e];exact h.blk
  exact .inr ⟨g,e,zR h.size hg⟩
 rw[k.kept b (Zl hb h.size) hB ?_,h.kept b hb hB hA];rcases h.blk with e | ⟨g,e,hg⟩
 ·rw[e];exact hA
 rw[e];intro e2;have:=zO e2;omega
theorem PtK.wide{B:Nat}{W w':World}(A:Option Addr)(h:Below W.heap.size W w'):PtK B W A w' A:=⟨.inl rfl,fun b hb _ _=>h.block b hb,h.size⟩
theorem PtK.set{B:Nat}{W:World}(A:Option Addr)(v:Value):PtK B W A (W.setCell ⟨B,0,none⟩ v) A :=
 ⟨.inl rfl,fun b _ hB _=>Below.heap_setCell _ _ _ _ hB,by simp[World.setCell]⟩
theorem PtK.grown{B:Nat}{W w':World}{A A':Option Addr}(hg:W.grownBy w' (A.map (·.block)))(hA:A'.map (·.block)=A.map (·.block)∨A'.map (·.block)=some W.heap.size):PtK B W A w' A' :=
 ⟨hA.imp id (fun e=>⟨_,e,zN _⟩),fun b hb _ h=>hg.block b hb h,hg.size⟩
structure PtS(w0:World)(ks:List Int)(A0:Option Addr)(c0:Nat)(kt pt:Int)(nt:List UInt8)(At:Option Addr)(lt ct B1 B2 B3 B4 base:Nat)(W:World)(path:List Int)(A:Option Addr)(c:Nat):Prop where
 below:Below w0.heap.size w0 W
 b1:W.heap[B1]?=some (.cells #[.int .i64 kt,S nt,.int .i64 pt,.slice At lt ct] 51 (0,0))
 b2:W.heap[B2]?=some (.cells #[.slice A0 ks.length c0] 22 (0,0))
 b3:W.heap[B3]?=some (.cells #[.slice A path.length c] 22 (0,0))
 b4:W.heap[B4]?=some (.cells #[.func (.func 44) #[] #[.pointer (some ⟨B1,0,none⟩),.pointer (some ⟨B2,0,none⟩),.pointer (some ⟨B3,0,none⟩),.pointer (some ⟨B4,0,none⟩)]] 97 (0,0))
 own:W.ownsRow base 3 1 (.slice A path.length c) path.length (ints path)
 n:w0.heap.size≤B3∧B1<base∧B2<base∧B3<base∧B4<base∧B1≠B3∧B2≠B3∧B4≠B3∧base≤W.heap.size
section
variable {w0:World} {ks:List Int} {A0:Option Addr} {c0:Nat} {kt pt:Int} {nt:List UInt8} {At:Option Addr} {lt ct B1 B2 B3 B4 base:Nat} {W w':World} {path:List Int} {A:Option Addr} {c:Nat}
theorem PtS.blk(h:PtS w0 ks A0 c0 kt pt nt At lt ct B1 B2 B3 B4 base W path A c){g:Nat}(e:A.map (·.block)=some g):base≤g∧g<W.heap.size:=h.own.lt g (by rw[ownBlock_slice];exact e)
theorem PtS.wide(h:PtS w0 ks A0 c0 kt pt nt At lt ct B1 B2 B3 B4 base W path A c)(hb:Below W.heap.size W w'):PtS w0 ks A0 c0 kt pt nt At lt ct B1 B2 B3 B4 base w' path A c:=by
 obtain⟨n0,n1,n2,n3,n4,n5,n6,n7,n8⟩:=h.n;have hs:=hb.size;exact⟨h.below.trans (hb.mono h.below.size),(hb.block _ (by omega)).trans h.b1,(hb.block _ (by omega)).trans h.b2,(hb.block _ (by omega)).trans h.b3,(hb.block _ (by omega)).trans h.b4,
  h.own.kept (zE (T:=B3) hb) (.inr fun e=>by rw[ownBlock_slice] at e;have:=(h.blk e).1;omega),n0,n1,n2,n3,n4,n5,n6,n7,by omega⟩
theorem PtS.push(h:PtS w0 ks A0 c0 kt pt nt At lt ct B1 B2 B3 B4 base W path A c){x:Int}{A':Option Addr}{c':Nat}(hown:w'.ownsRow base 3 1 (.slice A' (path.length+1) c') (path.length+1) (ints path++[.int .i64 x]))(hg:W.grownBy w' (A.map (·.block))) :
  PtS w0 ks A0 c0 kt pt nt At lt ct B1 B2 B3 B4 base (w'.setCell ⟨B3,0,none⟩ (.slice A' (path.length+1) c')) (path++[x]) A' c':=by
 obtain⟨n0,n1,n2,n3,n4,n5,n6,n7,n8⟩:=h.n;have hs:=hg.size;have hk:∀b,b<base→b≠B3→(w'.setCell ⟨B3,0,none⟩ (.slice A' (path.length+1) c')).heap[b]?=W.heap[b]?:=fun b hb hB=>by
  rw[Below.heap_setCell _ _ _ _ hB];exact hg.block b (by omega) (fun e=>by have:=(h.blk e.symm).1;omega)
 have hb0:w0.heap.size≤base:=by omega
 have e1:(path++[x]).length=path.length+1:=by simp
 refine⟨⟨hg.os.trans h.below.os,hg.tape.trans h.below.tape,hg.output.trans h.below.output,by simp[World.setCell];exact zR h.below.size hs,fun b hb=>?_⟩,(hk _ n1 n5).trans h.b1,(hk _ n2 n6).trans h.b2,?_,(hk _ n4 n7).trans h.b4,?_,n0,n1,n2,n3,n4,n5,n6,n7,by simp[World.setCell];omega⟩
 ·rw[hk b (by omega) (by omega)];exact h.below.block b hb
 ·have h3:w'.heap[B3]?=some (.cells #[.slice A path.length c] 22 (0,0)):=(hg.block B3 (by omega) (fun e=>by have:=(h.blk e.symm).1;omega)).trans h.b3;rw[e1];simp[World.setCell,zM,h3]
 rw[e1];have e2:ints (path++[x])=ints path++[.int .i64 x]:=by simp[ints]
 rw[e2];exact ownsRow_setCell_other hown (fun e=>by have:=(hown.lt B3 e).1;omega) _
theorem PtS.pop{x:Int}(h:PtS w0 ks A0 c0 kt pt nt At lt ct B1 B2 B3 B4 base W (path++[x]) A c):PtS w0 ks A0 c0 kt pt nt At lt ct B1 B2 B3 B4 base (W.setCell ⟨B3,0,none⟩ (.slice A path.length c)) path A c:=by
 obtain⟨n0,n1,n2,n3,n4,n5,n6,n7,n8⟩:=h.n;have e1:(path++[x]).length=path.length+1:=by simp
 have hown:=h.own;rw[e1] at hown;obtain⟨g,cap,hv⟩:=ownsRow_succ hown;injection hv with ha _ hc;subst ha hc;have hk:∀b,b≠B3→(W.setCell ⟨B3,0,none⟩ (.slice (some ⟨g,0,none⟩) path.length c)).heap[b]?=W.heap[b]?:=fun b hB=>Below.heap_setCell _ _ _ _ hB;have e2:ints (path++[x])=ints path++[.int .i64 x]:=by simp[ints]
 rw[e2] at hown;have hp:W.ownsRow base 3 1 (.slice (some ⟨g,0,none⟩) path.length c) path.length (ints path):=ownsRow_pop (last:=[.int .i64 x]) (by simp[ints]) hown;refine⟨⟨h.below.os,h.below.tape,h.below.output,by simp[World.setCell];exact h.below.size,fun b hb=>by rw[hk b (by omega)];exact h.below.block b hb⟩,(hk _ n5).trans h.b1,(hk _ n6).trans h.b2,?_,(hk _ n7).trans h.b4,ownsRow_setCell_other hp (fun e=>by have:=(hp.lt B3 e).1;omega) _,n0,n1,n2,n3,n4,n5,n6,n7,by simp[World.setCell];omega⟩;have h3:=h.b3;simp[World.setCell,zM,h3]
end
end Go.Proofs.YtadjpadieljjlaaGreat
