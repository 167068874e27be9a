/- Parts of the proof that no input makes the law false: OcCcat, OcQue, OcReach, OcPSt, OcCan. -/
import Derived.ArgAppend
import Derived.Test.YtadjpadieljjlaaGreatWvAH
set_option linter.unusedVariables false
set_option linter.unusedSimpArgs false
set_option maxRecDepth 100000
set_option maxHeartbeats 32000000
namespace Go.Proofs.YtadjpadieljjlaaGreat
section
open Go.RowKit Go.Maps _root_.Lfc
section
variable {P:Program} {w:World}
theorem run_append_none_c(base:Nat)(t ty e:TypeId)(i:TypeInfo)(size:Nat)(ht:P.underlying t=some (.slice e))(hi:P.info? e=some i)
  (v:Value) (n c:Nat) (xs:List Value) (hown:w.ownsRow base e size v n xs) :
  (Builtin.append_ #[t,t] ty #[v,.slice none 0 c]).run P w=.ok v w:=by
 rcases hown.2 with⟨rfl,rfl⟩ | ⟨g,cap,cur,rfl,_,_,hnc,_⟩
 ·simp[Builtin.append_,run_underlying ht,sizeOf,typeInfo,hi,Builtin.lenOf,Builtin.firstCells]
 simp[Builtin.append_,run_underlying ht,sizeOf,typeInfo,hi,Builtin.lenOf,Builtin.firstCells,hnc,storeCells]
theorem wpList_append_none_c{ops:Array Oper}{rest:List Oper}{o:Oper}{a:Act}{Q:Exit→Act→World→Prop}(hgd:o.guard=none)(s x:Operand)(t:TypeId)
  (ho:o.op=.call { callee:=.builtin .append,args:=#[s,x],argTypes:=#[t,t] })
  (base:Nat) (e:TypeId) (i:TypeInfo) (size:Nat) (ht:P.underlying t=some (.slice e)) (hi:P.info? e=some i)
  (v:Value) (n c:Nat) (xs:List Value) (hs:a.eval s=v) (hown:w.ownsRow base e size v n xs) (hx:a.eval x=.slice none 0 c)
  (h:wpList P ops Q rest (a.put o.dst v) w):wpList P ops Q (o :: rest) a w:=by
 refine wpList_plain hgd fun K hK=>?_;have hrun:=run_append_none_c (P:=P) (w:=w) base t o.type e i size ht hi v n c xs hown;unfold Oper.wp;simp[execOp,ho,resolve,invoke,builtin,hs,hx,hrun,Result.andThen];exact hK _ _ h
end
theorem growL_any(n:Nat)(w:World)(hn:n<=10000000) :
  Calls Tryz.prog 168 #[zS,zI (n:Int)] w fun e w'=>(∃v,e=.returned v/\w'.ownsRow w.heap.size 93 7 v 0 [])/\zb w w':=by
 obtain⟨i0,hi,hz0,hz1,hz2⟩:=info_parts linkInfo;by_cases h0:n=0
 ·subst h0;have h2:IntKind.i64.wrap (0-0)=0:=by decide
  simp only[Int.natCast_zero];go_enter Tryz.func168,Tryz.ntmps168;go_wp2_with fail;go_ret;exact⟨⟨_,rfl,World.ownsRow_nil w w.heap.size _ 7⟩,zB _ _⟩
 have hn0:¬((n:Int)<0):=by omega
 have h1:IntKind.i64.wrap (0-0)=0:=by decide
 have h2:IntKind.i64.wrap ((n:Int)-0)=(n:Int):=by rw[Zi _ (by omega)];omega
 have h3:(n:Int)>0:=by omega
 have h4:decide ((n:Int)>0)=true:=Zt h3;have h5:decide ((n:Int)<0)=false:=Zu hn0;have hold:(Builtin.firstCells i0.size 0 zS).run Tryz.prog w.drew=.ok (#[]:Array Value) w.drew:=run_firstCells_none w.drew i0.size 0 0 0;have hr:∀ty,(Builtin.append_ #[37,3] ty #[zS,zI (n:Int)]).run Tryz.prog w=.ok (.slice (some ⟨w.heap.size,0,none⟩) n (grownCap w n 0 93)) (w.drew.alloc (.cells (Builtin.zeroCells #[zI 0,zI 0,S [],zI 0,zS,zS,zI 0] n++Builtin.zeroCells #[zI 0,zI 0,S [],zI 0,zS,zS,zI 0] (grownCap w n 0 93-n)) 93)):=fun ty=>by
  have h:=Lib.run_append_grow_zeros w 37 3 ty 93 i0 _ .i64 .i64 Tryz.underlying37 Tryz.underlying3 hi hz0 none 0 0 [] hold n (by omega) (by omega) (by omega) (by omega) (by rw[hz2];omega) (by rw[Nat.zero_add];exact growslice_fits (by omega) (by rw[hz2];omega));rw[show(Value.agg #[zI 0,zI 0,S [],zI 0,zS,zS,zI 0]).cells=#[zI 0,zI 0,S [],zI 0,zS,zS,zI 0] from rfl] at h;simpa using h
 have hG:=grownCap_ge w n 0 93;have hG2:=grownCap_le_maxLen w n 0 93 (by unfold maxLen;omega);obtain⟨G,hG0⟩:∃G,grownCap w n 0 93=G:=⟨_,rfl⟩;rw[hG0] at hr hG hG2;obtain⟨w1,hw1⟩:∃w1,w.drew.alloc (.cells (Builtin.zeroCells #[zI 0,zI 0,S [],zI 0,zS,zS,zI 0] n++Builtin.zeroCells #[zI 0,zI 0,S [],zI 0,zS,zS,zI 0] (G-n)) 93)=w1:=⟨_,rfl⟩;rw[hw1] at hr;have HZ:Hid (w1.ownsRow w.heap.size 93 7 (.slice (some ⟨w.heap.size,0,none⟩) 0 G) 0 []/\zb w w1):=zH (by
  refine⟨⟨rfl,.inr ⟨w.heap.size,G,_,rfl,zN _,by rw[<-hw1];exact zW w.drew _,Nat.zero_le _,hG2,?_,?_⟩⟩,?_⟩
  ·rw[Array.size_append,size_zeroCells,size_zeroCells];show n*7+(G-n)*7=G*7;omega
  ·simp
  rw[<-hw1];exact((zB _ _).drew).alloc (zN _) _)
 have hG3:=zP G;unfold maxLen at hG2;clear hG0 hw1 hold;go_enter Tryz.func168,Tryz.ntmps168;go_wp2_with (at_builtin;refine Lib.wpList_append_run _ rfl _ _ _ _ rfl _ _ rfl rfl _ _ (hr _) ?_);all_goals
  go_ret;exact⟨⟨_,rfl,HZ.o.1⟩,HZ.o.2⟩
def PartsL(w:World)(g o:Nat)(Ls:List Part):Prop:=∀k(h:k<Ls.length),w.cell? ⟨g,o+k,none⟩=some (.slice Ls[k].A Ls[k].n Ls[k].c)∧Ls[k].xs.length=Ls[k].n*7∧(Ls[k].A=none→Ls[k].n=0)∧(∀a,Ls[k].A=some a→∀j u,Ls[k].xs[j]?=some u→w.cell? (a.add j)=some u)∧(∀u∈Ls[k].xs,u.oneCell'=true)
theorem PartsL.below{w w':World}{g o:Nat}{Ls:List Part}(h:PartsL w g o Ls)(hb:Below w.heap.size w w'):PartsL w' g o Ls:=fun k hk=>by
 obtain⟨h1,h2,h3,h4,h5⟩:=h k hk;exact⟨(hb.cell (World.block_lt_of_cell? w _ h1)).trans h1,h2,h3,fun a ha j u hj=>(hb.cell (World.block_lt_of_cell? w _ (h4 a ha j u hj))).trans (h4 a ha j u hj),h5⟩
theorem concatL_any(g o c:Nat)(Ls:List Part)(w:World)(hL:Ls.length<=1000)(hN:partsN Ls<=10000000)(hP:PartsL w g o Ls) :
  Calls Tryz.prog 165 #[.slice (some ⟨g,o,none⟩) Ls.length c] w fun e w'=>(∃v,e=.returned v/\w'.ownsRow w.heap.size 93 7 v (partsN Ls) (partsX Ls))/\zb w w':=by
 obtain⟨i0,hi,hz0,hz1,hz2⟩:=info_parts linkInfo;have HP:=zH hP;clear hP;obtain⟨N,hNN⟩:∃N,partsN Ls=N:=⟨_,rfl⟩;have HNN:=zH hNN;have hN2:N<=10000000:=by omega
 clear hN hNN;have CG:=zH (growL_any N w hN2);go_enter Tryz.func165,Tryz.ntmps165;go_wp2_with fail;go_loopw [3,11] (fun s i wr=>∃k:Nat,k<=Ls.length/\s=zI (partsN (Ls.take k):Nat)/\i=zI (k:Int)/\wr=w) (fun _ i _=>Ls.length-(intOf i).toNat);case atStart=>exact⟨0,by omega,by simp[partsN],by simp,by simp⟩
 obtain⟨k,hk,rfl,rfl,hwx⟩:=hrel;subst hwx;by_cases hlt:k<Ls.length
 ·obtain⟨h1,h2,h3,h4,h5⟩:=HP.o k hlt;have HS:=zH (partsN_succ hlt);have hT:partsN (Ls.take (k+1))<=N:=by rw[<-HNN.o];exact partsN_take _ _
  have hsum:partsN (Ls.take k)+Ls[k].n<=N:=by rw[<-HS.o];exact hT
  have hi0:=zP k;have hi1:(k:Int)<(Ls.length:Int):=by omega
  have hwr:IntKind.i64.wrap ((partsN (Ls.take k):Int)+(Ls[k].n:Int))=(partsN (Ls.take k):Int)+(Ls[k].n:Int):=Zi _ (by omega);have hd:decide ((partsN (Ls.take k):Int)+(Ls[k].n:Int)<0)=false:=Zu (by omega);have hd2:¬((partsN (Ls.take k):Int)+(Ls[k].n:Int)<0):=by omega
  clear h2 h3 h4 h5 hT;go_wp2_with fail;go_roundw;case rel=>exact⟨k+1,by omega,by rw[HS.o];go_num,by go_num,by simp⟩
  case measure=>simp[intOf];omega
 obtain rfl:k=Ls.length:=by omega
 have hTE:partsN (Ls.take Ls.length)=N:=by rw[List.take_length];exact HNN.o
 rw[hTE];clear hTE;go_wp2_with fail;refine CG.o.mono ?_;rintro e w2⟨⟨v,rfl,hown⟩,hb⟩;have HW:=zH (show w2.ownsRow wr.heap.size 93 7 v (partsN (Ls.take 0)) (partsX (Ls.take 0))/\zb wr w2 from⟨hown,hb⟩);clear hown hb CG;obtain⟨wq,hwq⟩:∃wq,wq=wr:=⟨_,rfl⟩;subst hwq;go_wp2_with fail;go_loopw [6,27] (fun v i wr=>∃k:Nat,k<=Ls.length/\i=zI (k:Int)/\Hid (wr.ownsRow wq.heap.size 93 7 v (partsN (Ls.take k)) (partsX (Ls.take k))/\zb wq wr)) (fun _ i _=>Ls.length-(intOf i).toNat);case atStart=>exact⟨0,by omega,rfl,HW⟩
 obtain⟨k,hk,rfl,HI⟩:=hrel;obtain⟨hown,hb⟩:=HI.o;by_cases hlt:k<Ls.length
 ·obtain⟨h1,h2,h3,h4,h5⟩:=(HP.o.below hb) k hlt;have HS:=zH (partsN_succ hlt);have HX:=zH (partsX_succ hlt);have hT:partsN (Ls.take (k+1))<=N:=by rw[<-HNN.o];exact partsN_take _ _
  have hsum:partsN (Ls.take k)+Ls[k].n<=N:=by rw[<-HS.o];exact hT
  have hi0:=zP k;have hi1:(k:Int)<(Ls.length:Int):=by omega
  generalize Ls[k]=P at *;obtain⟨PA,Pn,Pc,Px⟩:=P;simp only at h1 h2 h3 h4 h5 hsum HS HX;have HO:=zH hown;have HB:=zH hb;clear hown hb HI HW;cases PA with
  |none =>
   obtain rfl:=h3 rfl;have hx0:Px=[]:=Zz (by omega);clear h2 h3 h4 h5;go_wp2_with (at_builtin;refine wpList_append_none_c rfl _ _ 37 rfl wq.heap.size 93 i0 7 Tryz.underlying37 hi _ _ _ _ rfl HO.o rfl ?_);go_roundw;case rel=>exact⟨k+1,by omega,by go_num,zH ⟨by rw[HS.o,HX.o,hx0,Nat.add_zero,List.append_nil];exact HO.o,HB.o⟩⟩
   case measure=>simp[intOf];omega
  |some a =>
   have H4:=zH (h4 a rfl);have H5:=zH h5;have H2:=zH h2;clear h2 h3 h4 h5;go_wp2_with (at_builtin;refine wpList_append_own_at _ rfl _ _ 37 rfl wq.heap.size 93 i0 _ 7 96 Tryz.underlying37 hi hz0 hz1 hz2 rfl (by decide) _ _ _ rfl HO.o a Pn Pc Px rfl H2.o H4.o H5.o (by unfold maxLen;omega) (by omega) HB.o.size ?_);intro v9 w9 hown9 hg9 _ _;have HZ:Hid (w9.ownsRow wq.heap.size 93 7 v9 (partsN (Ls.take (k+1))) (partsX (Ls.take (k+1)))/\zb wq w9):=zH ⟨by rw[HS.o,HX.o];exact hown9,Below.grown HB.o hg9 HB.o.size (fun b e=>(HO.o.lt b e).1)⟩;clear hown9 hg9;go_wp2_with fail;go_roundw;case rel=>exact⟨k+1,by omega,by go_num,HZ⟩
   case measure=>simp[intOf];omega
 obtain rfl:k=Ls.length:=by omega
 rw[List.take_length] at hown;have HZ:=zJ hown hb;clear hown hb HI;go_wp2_with fail;go_ret;exact⟨⟨_,rfl,HZ.o.1⟩,HZ.o.2⟩
theorem LinkRow.of{q:Nat→Prop}{w:World}{b:Nat}:∀(l:List Link)(o:Nat),(∀i(h:i<l.length),LinkP q w b (o+i*7) l[i])→∃xs,LinkRow q w l xs∧CellsAt w b o xs
 |[],o,_=>⟨[],by rw[LinkRow],fun j u h=>by simp at h⟩
 |x :: r,o,h=>by
  obtain⟨xs,hx,hc⟩:=LinkRow.of r (o+7) (fun i hi=>by
   have:=h (i+1) (by simpa using hi);rw[show o+(i+1)*7=o+7+i*7 by omega] at this;simpa using this)
  obtain⟨k,n,p,ts,At,ct,A,c,e,h0,h1,h2,h3,h4,h5,h6,hcl,hi,ht⟩:=h 0 (by simp);simp only[Nat.zero_mul,Nat.add_zero,List.getElem_cons_zero] at e h0 h1 h2 h3 h4 h5 h6 hcl hi ht;refine⟨_,by rw[LinkRow];exact⟨k,n,p,ts,At,ct,A,c,xs,e,rfl,hcl,hi,ht,hx⟩,fun j u hj=>?_⟩
  match j,hj with
  |0,hj=>simp at hj;subst hj;exact h0
  |1,hj=>simp at hj;subst hj;exact h1
  |2,hj=>simp at hj;subst hj;exact h2
  |3,hj=>simp at hj;subst hj;exact h3
  |4,hj=>simp at hj;subst hj;exact h4
  |5,hj=>simp at hj;subst hj;exact h5
  |6,hj=>simp at hj;subst hj;exact h6
  |j+7,hj =>
   have:=hc j u (by simpa using hj);rw[show o+(j+7)=o+7+j by omega];exact this
theorem LinkRow.cell1{q:Nat→Prop}{w:World}:∀{l:List Link}{xs:List Value},LinkRow q w l xs→∀u∈xs,u.oneCell'=true
 |[],xs,h,u,hu=>by rw[LinkRow] at h;subst h;simp at hu
 |x :: r,xs,h,u,hu=>by
  rw[LinkRow] at h;obtain⟨k,n,p,ts,At,ct,A,c,ys,_,rfl,_,_,_,hr⟩:=h;simp only[List.mem_cons] at hu;rcases hu with rfl | rfl | rfl | rfl | rfl | rfl | rfl | hu;all_goals first | rfl | exact hr.cell1 u hu
theorem LkO.cells{q:Nat→Prop}{w:World}{A:Option Addr}{n c:Nat}(h:LkO q w A n c):∃l xs,l.length=n∧xs.length=n*7∧LinkRow q w l xs∧(∀x∈l,x.term.size≤1000∧x.path.length≤1000)∧(A=none→n=0)∧(∀a,A=some a→∀j u,xs[j]?=some u→w.cell? (a.add j)=some u)∧(∀u∈xs,u.oneCell'=true):=by
 obtain⟨hc,l,hl,hL,hs⟩:=h;by_cases h0:l=[]
 ·subst h0;simp only[List.length_nil] at hl;subst hl;exact⟨[],[],rfl,rfl,by rw[LinkRow],hs,fun _=>rfl,fun _ _ j u h=>by simp at h,fun u h=>by simp at h⟩
 obtain⟨b,o,rfl,hlt,hqb,hp⟩:=hL h0;obtain⟨xs,hx,hcs⟩:=LinkRow.of l o hp;refine⟨l,xs,hl,by rw[hx.len,hl],hx,hs,(fun e=>by cases e),fun a ha j u hj=>?_,hx.cell1⟩;cases ha;rw[addr_add0];exact hcs j u hj
theorem partN2(P Q:Part):partsN [P,Q]=P.n+Q.n:=by simp[partsN]
theorem partX2(P Q:Part):partsX [P,Q]=P.xs++Q.xs:=by simp[partsX]
theorem cat2_any(q:Nat→Prop)(g:Nat)(T:TypeId)(A B:Option Addr)(n m c d:Nat)(w:World)(hg:w.heap[g]?=some (.cells #[.slice A n c,.slice B m d] T (0,0)))(hA:LkO q w A n c)(hB:LkO q w B m d)(hn:n+m≤100000)(hq:∀b,w.heap.size≤b→q b) :
  Calls Tryz.prog 165 #[.slice (some ⟨g,0,none⟩) 2 2] w (fun e w'=>(∃A' c',e=.returned (.slice A' (n+m) c')∧LkO q w' A' (n+m) c')∧Below w.heap.size w w'):=by
 obtain⟨l,xs,hl,hxl,hx,hs,hA0,hAc,hA1⟩:=hA.cells;obtain⟨l2,ys,hl2,hyl,hy,hs2,hB0,hBc,hB1⟩:=hB.cells;have hc:=cells2e hg;refine(concatL_any g 0 2 [⟨A,n,c,xs⟩,⟨B,m,d,ys⟩] w (by simp) (by rw[partN2];simp only;omega) ?_).mono ?_
 ·intro k hk;have hk':k<2:=hk
  match k,hk' with
  |0,_=>exact⟨hc.1,hxl,hA0,hAc,hA1⟩
  |1,_=>exact⟨hc.2,hyl,hB0,hBc,hB1⟩
 rintro e w'⟨⟨v,rfl,hown⟩,hb⟩;rw[partN2,partX2] at hown;simp only at hown;obtain⟨A',c',rfl,hc'⟩:=own_form hown;have hrow:LinkRow q w' (l++l2) (xs++ys):=LinkRow.append (hy.keep (fun b _ hlt=>hb.block b hlt) hb.size (fun _ _ h=>h)) (hx.keep (fun b _ hlt=>hb.block b hlt) hb.size (fun _ _ h=>h));have hlen:(l++l2).length=n+m:=by rw[Zq,hl,hl2]
 refine⟨⟨A',c',rfl,hc',l++l2,hlen,linksP_own (by rw[hlen];exact hown) hq hrow,fun x hx=>?_⟩,hb⟩;rcases List.mem_append.1 hx with h | h
 ·exact hs x h
 exact hs2 x h
end
section
open Go.RowKit Go.Maps
def qCells(zs:List (Nat × Int)):List Value:=zs.flatMap fun z=>[.int .i64 (z.1:Int),.int .i64 z.2]
theorem qCells_cons(z:Nat × Int)(zs:List (Nat × Int)):qCells (z :: zs)=.int .i64 (z.1:Int) :: .int .i64 z.2 :: qCells zs:=by simp[qCells]
theorem qCells_snoc(zs:List (Nat × Int))(z:Nat × Int):qCells (zs++[z])=qCells zs++[.int .i64 (z.1:Int),.int .i64 z.2]:=by simp[qCells]
theorem qCells_len:∀zs:List (Nat × Int),(qCells zs).length=zs.length*2
 |[]=>rfl
 |z :: zs=>by rw[qCells_cons];simp[qCells_len zs];omega
def QRow(W:World)(base:Nat)(v:Value)(zs:List (Nat × Int)):Prop :=
 (v=.slice none 0 0∧zs=[])∨∃g o cap cur,v=.slice (some ⟨g,o,none⟩) zs.length cap∧base≤g∧W.heap[g]?=some (.cells cur 180 (0,0))∧zs.length≤cap∧o+cap*2≤cur.size∧∀j u,(qCells zs)[j]?=some u→cur[o+j]?=some u
theorem QRow.keep{W W':World}{base:Nat}{v:Value}{zs:List (Nat × Int)}(h:QRow W base v zs)(hk:∀g,v.ownBlock=some g→W'.heap[g]?=W.heap[g]?):QRow W' base v zs:=by
 rcases h with h | ⟨g,o,cap,cur,rfl,hb,hg,rest⟩
 ·exact .inl h
 exact .inr ⟨g,o,cap,cur,rfl,hb,(hk g rfl).trans hg,rest⟩
theorem QRow.ge{W:World}{base g:Nat}{v:Value}{zs:List (Nat × Int)}(h:QRow W base v zs)(hg:v.ownBlock=some g):base≤g∧g<W.heap.size:=by
 rcases h with⟨rfl,_⟩ | ⟨g',o,cap,cur,rfl,hb,hg',rest⟩
 ·cases hg
 cases hg;exact⟨hb,zL hg'⟩
theorem QRow.of_own{W:World}{base:Nat}{v:Value}{zs:List (Nat × Int)}(h:W.ownsRow base 180 2 v zs.length (qCells zs)):QRow W base v zs:=by
 rcases h.2 with⟨rfl,h0⟩ | ⟨g,cap,cur,rfl,hb,hg,hn,hm,hs,ht⟩
 ·exact .inl ⟨rfl,Zz h0⟩
 refine .inr ⟨g,0,cap,cur,rfl,hb,hg,hn,by omega,fun j u hj=>?_⟩;rw[Nat.zero_add,←Array.getElem?_toList];rw[←ht,List.getElem?_take] at hj;split at hj
 ·exact hj
 cases hj
theorem QRow.head{W:World}{base:Nat}{v:Value}{z:Nat × Int}{zs:List (Nat × Int)}(h:QRow W base v (z :: zs)):∃g o cap,v=.slice (some ⟨g,o,none⟩) (zs.length+1) (cap+1)∧base≤g∧g<W.heap.size∧W.cell? ⟨g,o,none⟩=some (.int .i64 (z.1:Int))∧W.cell? ⟨g,o+1,none⟩=some (.int .i64 z.2)∧(zs.length≤cap) ∧
  QRow W base (.slice (if cap=0 then some ⟨g,o,none⟩ else some ⟨g,o+2,none⟩) zs.length cap) zs:=by
 rcases h with⟨_,h⟩ | ⟨g,o,cap,cur,rfl,hb,hg,hn,hs,hc⟩
 ·cases h
 rw[List.length_cons] at hn;obtain⟨cap,rfl⟩:∃k,cap=k+1:=⟨cap-1,by omega⟩;rw[qCells_cons] at hc;have h0:=hc 0 _ rfl;have h1:=hc 1 _ rfl;refine⟨g,o,cap,rfl,hb,zL hg,(zC hg o).trans h0,(zC hg (o+1)).trans h1,by omega,?_⟩;by_cases h0:cap=0
 ·subst h0;have:zs=[]:=Zz (by omega);subst this;rw[if_pos rfl];exact .inr ⟨g,o,0,cur,rfl,hb,hg,zN _,by omega,fun j u hj=>by simp[qCells] at hj⟩
 rw[if_neg h0];refine .inr ⟨g,o+2,cap,cur,rfl,hb,hg,by omega,by omega,fun j u hj=>?_⟩;have:=hc (j+2) u (by simpa using hj);rw[show o+2+j=o+(j+2) by omega];exact this
theorem pairInfo:(Tryz.prog.info? 180).map (fun i=>(i.zero,i.size,i.bytes))=some (some (.agg #[.int .i64 0,.int .i64 0]),2,16):=by kernel_rfl
theorem QRow.push{W:World}{base:Nat}{v:Value}{zs:List (Nat × Int)}(h:QRow W base v zs)(ty:TypeId)(i:Nat)(s:Int)(L c:Nat)(hlen:zs.length≤1000000)(hL0:W.cell? ⟨L,0,none⟩=some (.int .i64 (i:Int)))(hL1:W.cell? ⟨L,1,none⟩=some (.int .i64 s))(hbase:base≤W.heap.size) :
  ∃v' W',(Builtin.append_ #[192,192] ty #[v,.slice (some ⟨L,0,none⟩) 1 c]).run Tryz.prog W=.ok v' W'∧QRow W' base v' (zs++[(i,s)])∧W.grownBy W' v.ownBlock∧(∀b,v'.ownBlock=some b→v.ownBlock=some b∨W.heap.size≤b):=by
 obtain⟨i0,hi,hz0,hz1,hz2⟩:=info_parts pairInfo;have hnews:∀j u,[Value.int .i64 (i:Int),.int .i64 s][j]?=some u→W.cell? ((⟨L,0,none⟩:Addr).add j)=some u:=by
  intro j u hj;rw[addr_add0,Nat.zero_add]
  match j,hj with
  |0,hj=>simp at hj;subst hj;exact hL0
  |1,hj=>simp at hj;subst hj;exact hL1
  |j+2,hj=>simp at hj
 have h1:∀u∈[Value.int .i64 (i:Int),.int .i64 s],u.oneCell'=true:=by
  intro u hu;simp only[List.mem_cons,List.not_mem_nil,or_false] at hu;rcases hu with rfl | rfl <;> rfl
 have hl2:(zs++[(i,s)]).length=zs.length+1:=by simp
 rcases h with⟨rfl,rfl⟩ | ⟨g,o,cap,cur,rfl,hb,hg,hn,hs,hc⟩
 ·obtain⟨v',W',hr,hown,hgr,_,hat⟩:=run_append_own_at (P:=Tryz.prog) W base 192 ty 180 i0 _ 2 16 Tryz.underlying192 hi hz0 hz1 hz2 rfl (by decide) (.slice none 0 0) 0 [] (World.ownsRow_nil W base 180 2) ⟨L,0,none⟩ 1 c _ rfl hnews h1 (by unfold maxLen;omega) (by omega) hbase;refine⟨v',W',hr,QRow.of_own (zs:=[(i,s)]) (by simpa[qCells] using hown),hgr,fun b hb=>?_⟩;rcases hat with e | e
  ·exact .inl (e.symm.trans hb)
  rw[e] at hb;exact .inr (Nat.le_of_eq (zO hb))
 have holds:∀j u,(qCells zs)[j]?=some u→W.cell? ⟨g,o+j,none⟩=some u:=fun j u hj=>(zC hg (o+j)).trans (hc j u hj);by_cases hroom:zs.length+1≤cap
 ·have hin:∀j,j<2→o+zs.length*2+j<cur.size:=fun j hj=>by omega
  have hr:=run_append_room_cells (P:=Tryz.prog) W 192 ty 180 i0 Tryz.underlying192 hi g o zs.length cap ⟨L,0,none⟩ 1 c _ (by rw[hz1];rfl) hnews h1 hroom (fun j hj=>by
   rw[hz1,zC hg,Array.getElem?_eq_getElem (hin j hj)];rfl) (fun j hj=>by exact zF hg _)
  rw[hz1] at hr;have hset:W.setCells g (o+zs.length*2) [Value.int .i64 (i:Int),.int .i64 s]=(W.setCell ⟨g,o+zs.length*2,none⟩ (.int .i64 (i:Int))).setCell ⟨g,o+zs.length*2+1,none⟩ (.int .i64 s):=rfl;rw[hset] at hr;have hq:((W.setCell ⟨g,o+zs.length*2,none⟩ (.int .i64 (i:Int))).setCell ⟨g,o+zs.length*2+1,none⟩ (.int .i64 s)).heap[g]?=some (.cells ((cur.set! (o+zs.length*2) (.int .i64 (i:Int))).set! (o+zs.length*2+1) (.int .i64 s)) 180 (0,0)):=by
   simp[World.setCell,zM,hg]
  refine⟨_,_,hr,.inr ⟨g,o,cap,_,by rw[hl2],hb,hq,by omega,by simp;omega,fun j u hj=>?_⟩,(Oth.set W _).trans (Oth.set _ _),fun b hb=>.inl hb⟩;rw[qCells_snoc] at hj;have hql:=qCells_len zs;simp only[Array.set!_eq_setIfInBounds];rw[Array.getElem?_setIfInBounds,Array.getElem?_setIfInBounds];by_cases hj1:j<(qCells zs).length
  ·rw[List.getElem?_append_left hj1] at hj;rw[if_neg (by omega),if_neg (by omega)];exact hc j u hj
  rw[List.getElem?_append_right (by omega)] at hj;by_cases e0:j=zs.length*2
  ·subst e0;rw[hql,Nat.sub_self] at hj;rw[if_neg (by omega),if_pos rfl,if_pos (by have:=hin 0 (by omega);omega)];exact hj
  by_cases e1:j=zs.length*2+1
  ·subst e1;rw[hql,show zs.length*2+1-zs.length*2=1 by omega] at hj;rw[if_pos (by omega),if_pos (by simp;have:=hin 1 (by omega);omega)];exact hj
  exfalso;rw[List.getElem?_eq_none (by simp;omega)] at hj;cases hj
 obtain⟨v',W',hr,hown,hgr⟩:=run_append_arg_grows (P:=Tryz.prog) W 192 ty 180 i0 _ 2 16 Tryz.underlying192 hi hz0 hz1 hz2 rfl (by decide) ⟨g,o,none⟩ zs.length cap (qCells zs) (qCells_len zs) (fun j u hj=>by rw[addr_add0];exact holds j u hj) ⟨L,0,none⟩ 1 c _ rfl hnews (by omega) (by unfold maxLen;omega) (by omega);rw[←qCells_snoc zs (i,s),←hl2] at hown;have hown2:W'.ownsRow base 180 2 v' (zs++[(i,s)]).length (qCells (zs++[(i,s)])):=⟨hown.1,hown.2.imp id fun⟨g,cap,cur,h1,h2,h3⟩=>⟨g,cap,cur,h1,zR hbase h2,h3⟩⟩;exact⟨v',W',hr,QRow.of_own hown2,⟨hgr.os,hgr.tape,hgr.output,hgr.size,fun k hk _=>hgr.block k hk (fun e=>by cases e)⟩,fun b hb=>.inr (hown.lt b hb).1⟩
end
section
open Go.RowKit Go.Maps _root_.Lfc
structure Kpt(q:Nat→Prop)(w w':World):Prop where
 os:w'.os=w.os
 tape:w'.tape=w.tape
 output:w'.output=w.output
 size:w.heap.size≤w'.heap.size
 block:∀k,k<w.heap.size→q k→w'.heap[k]?=w.heap[k]?
theorem Kpt.refl(q:Nat→Prop)(w:World):Kpt q w w:=⟨rfl,rfl,rfl,zN _,fun _ _ _=>rfl⟩
theorem Kpt.trans{q q':Nat→Prop}{w w1 w2:World}(h:Kpt q w w1)(h':Kpt q' w1 w2)(hq:∀b,b<w.heap.size→q b→q' b):Kpt q w w2 :=
 ⟨h'.os.trans h.os,h'.tape.trans h.tape,h'.output.trans h.output,zR h.size h'.size,fun k hk hn=>(h'.block k (Zl hk h.size) (hq k hk hn)).trans (h.block k hk hn)⟩
theorem Kpt.of_oth{q:Nat→Prop}{T:Nat}{w w':World}(h:Oth T w w')(hq:∀b,q b→b≠T):Kpt q w w':=⟨h.os,h.tape,h.output,h.size,fun k hk hn=>h.block k hk (fun e=>hq k hn (zO e))⟩
theorem Kpt.of_below{q:Nat→Prop}{w w':World}(h:Below w.heap.size w w'):Kpt q w w':=⟨h.os,h.tape,h.output,h.size,fun k hk _=>h.block k hk⟩
theorem Kpt.cell{q:Nat→Prop}{w w':World}(h:Kpt q w w'){p:Addr}(hp:p.block<w.heap.size)(hn:q p.block):w'.cell? p=w.cell? p:=World.cell?_of_block (h.block _ hp hn)
theorem LkO.kpt{q q':Nat→Prop}{w w':World}{A:Option Addr}{n c:Nat}(h:LkO q w A n c)(hk:Kpt q w w')(hq:∀b,b<w.heap.size→q b→q' b):LkO q' w' A n c:=h.keep (fun b hb hlt=>hk.block b hlt hb) hk.size hq
def BRow(q:Nat→Prop)(W:World)(g n:Nat)(R:Nat→Bool)(cnt:Nat):Prop:=∃cur,W.heap[g]?=some (.cells cur 194 (0,0))∧cur.size=n*2∧∀i,i<n→∃A m c,cur[i*2]?=some (.bool (R i))∧cur[i*2+1]?=some (.slice A m c)∧(R i=true→LkO q W A m c∧m≤cnt)
theorem BRow.keep{q q':Nat→Prop}{W W':World}{g n:Nat}{R R':Nat→Bool}{cnt cnt':Nat}(h:BRow q W g n R cnt)(hk:Kpt q W W')(hg:W'.heap[g]?=W.heap[g]?)(hq:∀b,b<W.heap.size→q b→q' b)(hR:∀i,i<n→R' i=R i)(hc:cnt≤cnt'):BRow q' W' g n R' cnt':=by
 obtain⟨cur,h1,h2,h3⟩:=h;refine⟨cur,hg.trans h1,h2,fun i hi=>?_⟩;obtain⟨A,m,c,e1,e2,e3⟩:=h3 i hi;refine⟨A,m,c,by rw[hR i hi];exact e1,e2,fun hr=>?_⟩;rw[hR i hi] at hr;exact⟨(e3 hr).1.kpt hk hq,zR (e3 hr).2 hc⟩
theorem BRow.cells{q:Nat→Prop}{W:World}{g n:Nat}{R:Nat→Bool}{cnt:Nat}(h:BRow q W g n R cnt){i:Nat}(hi:i<n):∃A m c,W.cell? ⟨g,i*2,none⟩=some (.bool (R i))∧W.cell? ⟨g,i*2+1,none⟩=some (.slice A m c)∧W.frozen? ⟨g,i*2,none⟩=false∧W.frozen? ⟨g,i*2+1,none⟩=false∧(R i=true→LkO q W A m c∧m≤cnt):=by
 obtain⟨cur,h1,h2,h3⟩:=h;obtain⟨A,m,c,e1,e2,e3⟩:=h3 i hi;exact⟨A,m,c,(zC h1 _).trans e1,(zC h1 _).trans e2,zF h1 _,zF h1 _,e3⟩
theorem BRow.set{q:Nat→Prop}{W:World}{g n:Nat}{R:Nat→Bool}{cnt:Nat}(h:BRow q W g n R cnt){i:Nat}(hi:i<n)(hqg:∀b,q b→b≠g){A:Option Addr}{m c:Nat}(hl:LkO q W A m c)(hm:m≤cnt+1){R':Nat→Bool}(hR':∀j,j<n→R' j=if j=i then true else R j) :
  BRow q ((W.setCell ⟨g,i*2,none⟩ (.bool true)).setCell ⟨g,i*2+1,none⟩ (.slice A m c)) g n R' (cnt+1):=by
 obtain⟨cur,h1,h2,h3⟩:=h;have hk:Kpt q W ((W.setCell ⟨g,i*2,none⟩ (.bool true)).setCell ⟨g,i*2+1,none⟩ (.slice A m c)):=Kpt.of_oth ((Oth.set W _).trans (Oth.set _ _)) hqg;refine⟨(cur.set! (i*2) (.bool true)).set! (i*2+1) (.slice A m c),by simp[World.setCell,zM,h1],by simp[h2],fun j hj=>?_⟩;by_cases e:j=i
 ·subst e;refine⟨A,m,c,?_,?_,fun _=>⟨hl.kpt hk (fun _ _ h=>h),hm⟩⟩
  ·rw[hR' j hj,if_pos rfl];simp only[Array.set!_eq_setIfInBounds];rw[Array.getElem?_setIfInBounds,Array.getElem?_setIfInBounds,if_neg (by omega),if_pos rfl,if_pos (by rw[h2];omega)]
  simp only[Array.set!_eq_setIfInBounds];rw[Array.getElem?_setIfInBounds,if_pos rfl,if_pos (by simp;rw[h2];omega)]
 obtain⟨A',m',c',e1,e2,e3⟩:=h3 j hj;refine⟨A',m',c',?_,?_,fun hr=>?_⟩
 ·rw[hR' j hj,if_neg e];simp only[Array.set!_eq_setIfInBounds];rw[Array.getElem?_setIfInBounds,Array.getElem?_setIfInBounds,if_neg (by omega),if_neg (by omega)];exact e1
 ·simp only[Array.set!_eq_setIfInBounds];rw[Array.getElem?_setIfInBounds,Array.getElem?_setIfInBounds,if_neg (by omega),if_neg (by omega)];exact e2
 rw[hR' j hj,if_neg e] at hr;exact⟨(e3 hr).1.kpt hk (fun _ _ h=>h),zR (e3 hr).2 (Nat.le_succ _)⟩
structure Spot where
 bb:Nat
 g0:Nat
 g1:Nat
 g2:Nat
 bq:Nat
 n:Nat
 Mb:Nat
def Spot.Q(p:Spot)(q:Nat→Prop)(v:Value)(b:Nat):Prop:=q b∧(b≠p.bb∧b≠p.g1∧b≠p.g2∧b≠p.bq)∧v.ownBlock≠some b
def Spot.F(p:Spot)(b:Nat):Prop:=b≠p.Mb∧b≠p.bb∧b≠p.g1∧b≠p.g2∧b≠p.bq
structure Spot.Ok(p:Spot)(q:Nat→Prop)(wS:World):Prop where
 lt:p.bb<wS.heap.size∧p.g1<wS.heap.size∧p.g2<wS.heap.size∧p.bq<wS.heap.size∧p.Mb<wS.heap.size
 ne:p.bb≠p.g1∧p.bb≠p.g2∧p.bb≠p.bq∧p.g1≠p.g2∧p.g1≠p.bq∧p.g2≠p.bq
 mb:p.bb≠p.Mb∧p.g1≠p.Mb∧p.g2≠p.Mb∧p.bq≠p.Mb
 qM:∀b,q b→b≠p.Mb
 qS:∀b,wS.heap.size≤b→q b
structure ChSt(ks:List Int)(fs:List Fact)(p:Spot)(q:Nat→Prop)(wS:World)(R:Nat→Int→Bool)(zs:List (Nat × Int))(U:Nat)(v:Value)(W:World):Prop where
 best:W.heap[p.bb]?=some (.cells #[.slice (some ⟨p.g0,0,none⟩) p.n p.n,.slice (some ⟨p.g1,0,none⟩) p.n p.n,.slice (some ⟨p.g2,0,none⟩) p.n p.n] 191 (0,0))
 row1:BRow (p.Q q v) W p.g1 p.n (fun i=>R i 1) (2*p.n-U)
 row2:BRow (p.Q q v) W p.g2 p.n (fun i=>R i 2) (2*p.n-U)
 que:W.heap[p.bq]?=some (.cells #[v] 192 (0,0))
 row:QRow W wS.heap.size v zs
 cache:Cache ks fs p.Mb (p.Q q v) W
 frame:Kpt p.F wS W
 unr:Lfc.unr p.n R≤U
 le:U≤2*p.n
theorem ChSt.qnew{ks:List Int}{fs:List Fact}{p:Spot}{q:Nat→Prop}{wS:World}{R:Nat→Int→Bool}{zs:List (Nat × Int)}{U:Nat}{v:Value}{W:World}(h:ChSt ks fs p q wS R zs U v W)(hok:p.Ok q wS):∀b,W.heap.size≤b→p.Q q v b:=fun b hb=>by
 have h1:=h.frame.size;obtain⟨l1,l2,l3,l4,l5⟩:=hok.lt;refine⟨hok.qS b (by omega),⟨by omega,by omega,by omega,by omega⟩,fun e=>?_⟩;have:=(h.row.ge e).2;omega
theorem ChSt.oth{ks:List Int}{fs:List Fact}{p:Spot}{q:Nat→Prop}{wS:World}{R:Nat→Int→Bool}{zs:List (Nat × Int)}{U:Nat}{v:Value}{W W':World}(h:ChSt ks fs p q wS R zs U v W)(hok:p.Ok q wS)(ho:Oth p.Mb W W')(hC:Cache ks fs p.Mb (p.Q q v) W'):ChSt ks fs p q wS R zs U v W':=by
 have h1:=h.frame.size;obtain⟨l1,l2,l3,l4,l5⟩:=hok.lt;obtain⟨m1,m2,m3,m4⟩:=hok.mb;have hb:∀b,b≠p.Mb→b<W.heap.size→W'.heap[b]?=W.heap[b]?:=fun b hn hlt=>ho.block b hlt (fun e=>hn (zO e));have hk:Kpt (p.Q q v) W W':=Kpt.of_oth ho (fun b hb=>hok.qM b hb.1);refine⟨(hb _ m1 (by omega)).trans h.best,h.row1.keep hk (hb _ m2 (by omega)) (fun _ _ h=>h) (fun _ _=>rfl) (zN _),h.row2.keep hk (hb _ m3 (by omega)) (fun _ _ h=>h) (fun _ _=>rfl) (zN _),(hb _ m4 (by omega)).trans h.que,h.row.keep (fun g hg=>hb g (fun e=>?_) (h.row.ge hg).2),hC,h.frame.trans (Kpt.of_oth ho (fun b hb=>hb.1)) (fun _ _ h=>h),h.unr,h.le⟩;have:=(h.row.ge hg).1;omega
theorem ChSt.below{ks:List Int}{fs:List Fact}{p:Spot}{q:Nat→Prop}{wS:World}{R:Nat→Int→Bool}{zs:List (Nat × Int)}{U:Nat}{v:Value}{W W':World}(h:ChSt ks fs p q wS R zs U v W)(hok:p.Ok q wS)(hb:Below W.heap.size W W'):ChSt ks fs p q wS R zs U v W' :=
 h.oth hok (zE hb) (h.cache.below hb)
theorem ChSt.reach{ks:List Int}{fs:List Fact}{p:Spot}{q:Nat→Prop}{wS:World}{R:Nat→Int→Bool}{zs:List (Nat × Int)}{U:Nat}{v:Value}{W:World}(h:ChSt ks fs p q wS R zs U v W)(hok:p.Ok q wS){i:Nat}{s:Int}{g:Nat}(hg:(s=1∧g=p.g1)∨(s=2∧g=p.g2))(hi:i<p.n)(hR:R i s=false){A:Option Addr}{m c:Nat}(hl:LkO (p.Q q v) W A m c)(hm:m≤2*p.n-U+1)(hz:zs.length≤1000000) :
  ∃s1 s2 s3,W.setCell ⟨g,i*2,none⟩ (.bool true)=s1∧s1.setCell ⟨g,i*2+1,none⟩ (.slice A m c)=s2∧s2.alloc (.cells #[.int .i64 (i:Int),.int .i64 s] 180)=s3 ∧
   (∃y,W.cell? ⟨g,i*2,none⟩=some (.bool false)∧s1.cell? ⟨g,i*2+1,none⟩=some y)∧(W.frozen? ⟨g,i*2,none⟩=false∧s1.frozen? ⟨g,i*2+1,none⟩=false) ∧
   (s2.cell? ⟨p.bq,0,none⟩=some v∧s2.heap.size=W.heap.size) ∧
   ∃v' s4 s5,(Builtin.append_ #[192,192] 192 #[v,.slice (some ⟨s2.heap.size,0,none⟩) 1 1]).run Tryz.prog s3=.ok v' s4 ∧
    s4.cell? ⟨p.bq,0,none⟩=some v∧s4.frozen? ⟨p.bq,0,none⟩=false∧s4.setCell ⟨p.bq,0,none⟩ v'=s5 ∧
    Hid (∃U',U'+1=U∧ChSt ks fs p q wS (setR R i s) (zs++[(i,s)]) U' v' s5∧Kpt (p.Q q v) W s5∧∀b,b<W.heap.size→p.Q q v b→p.Q q v' b):=by
 have h1:=h.frame.size;obtain⟨l1,l2,l3,l4,l5⟩:=hok.lt;obtain⟨n1,n2,n3,n4,n5,n6⟩:=hok.ne;obtain⟨m1,m2,m3,m4⟩:=hok.mb;have hs12:s=1∨s=2:=by rcases hg with⟨e,_⟩ | ⟨e,_⟩ <;> simp[e]
 have hU:=unr_set hi hs12 hR;have hU2:=h.unr;have hU3:=h.le;have hgq:∀b,p.Q q v b→b≠g:=fun b hb=>by
  rcases hg with⟨_,rfl⟩ | ⟨_,rfl⟩
  ·exact hb.2.1.2.1
  exact hb.2.1.2.2.1
 have hgl:g<wS.heap.size:=by rcases hg with⟨_,rfl⟩ | ⟨_,rfl⟩ <;> assumption
 have hgM:g≠p.Mb:=by rcases hg with⟨_,rfl⟩ | ⟨_,rfl⟩ <;> assumption
 have hgb:g≠p.bb:=by rcases hg with⟨_,rfl⟩ | ⟨_,rfl⟩ <;> omega
 have hgbq:g≠p.bq:=by rcases hg with⟨_,rfl⟩ | ⟨_,rfl⟩ <;> omega
 obtain⟨s1,e1⟩:∃s1,W.setCell ⟨g,i*2,none⟩ (.bool true)=s1:=⟨_,rfl⟩;obtain⟨s2,e2⟩:∃s2,s1.setCell ⟨g,i*2+1,none⟩ (.slice A m c)=s2:=⟨_,rfl⟩;obtain⟨s3,e3⟩:∃s3,s2.alloc (.cells #[.int .i64 (i:Int),.int .i64 s] 180)=s3:=⟨_,rfl⟩;have o2:Oth g W s2:=by rw[←e2,←e1];exact(Oth.set W _).trans (Oth.set _ _)
 have sz2:s2.heap.size=W.heap.size:=by rw[←e2,←e1];simp[World.setCell]
 have b3:=zG e3;have hcell:∃cur y,W.heap[g]?=some (.cells cur 194 (0,0))∧cur[i*2]?=some (.bool false)∧cur[i*2+1]?=some y:=by
  rcases hg with⟨rfl,rfl⟩ | ⟨rfl,rfl⟩
  ·obtain⟨cur,y1,y2,y3⟩:=h.row1;obtain⟨A0,m0,c0,z1,z2,_⟩:=y3 i hi;exact⟨cur,_,y1,by rw[←hR];exact z1,z2⟩
  obtain⟨cur,y1,y2,y3⟩:=h.row2;obtain⟨A0,m0,c0,z1,z2,_⟩:=y3 i hi;exact⟨cur,_,y1,by rw[←hR];exact z1,z2⟩
 obtain⟨cur,y,hcur,c1,c2⟩:=hcell;have hcur1:s1.heap[g]?=some (.cells (cur.set! (i*2) (.bool true)) 194 (0,0)):=by rw[←e1];simp[World.setCell,zM,hcur]
 have hRn:∀(j:Nat)(t:Int),t≠s→setR R i s j t=R j t:=fun j t ht=>setR_ne (.inr ht);have hRs:∀j,setR R i s j s=if j=i then true else R j s:=fun j=>by
  by_cases e:j=i
  ·subst e;rw[if_pos rfl,setR_new]
  rw[if_neg e,setR_ne (.inl e)]
 have k2:Kpt (p.Q q v) W s2:=Kpt.of_oth o2 hgq;have hcnt:2*p.n-U+1=2*p.n-(U-1):=by omega
 have r12:BRow (p.Q q v) s2 p.g1 p.n (fun j=>setR R i s j 1) (2*p.n-(U-1))∧BRow (p.Q q v) s2 p.g2 p.n (fun j=>setR R i s j 2) (2*p.n-(U-1)):=by
  rcases hg with⟨rfl,rfl⟩ | ⟨rfl,rfl⟩
  ·refine⟨?_,h.row2.keep k2 (o2.block _ (by omega) (fun e=>n4 (zO e).symm)) (fun _ _ h=>h) (fun j _=>hRn j 2 (by decide)) (by omega)⟩;have:=h.row1.set hi hgq hl hm (R':=fun j=>setR R i 1 j 1) (fun j _=>hRs j);rw[e1,e2,hcnt] at this;exact this
  refine⟨h.row1.keep k2 (o2.block _ (by omega) (fun e=>n4 (zO e))) (fun _ _ h=>h) (fun j _=>hRn j 1 (by decide)) (by omega),?_⟩;have:=h.row2.set hi hgq hl hm (R':=fun j=>setR R i 2 j 2) (fun j _=>hRs j);rw[e1,e2,hcnt] at this;exact this
 have q2:QRow s2 wS.heap.size v zs:=h.row.keep (fun gg hgg=>o2.block _ (h.row.ge hgg).2 (fun e=>by have:=(h.row.ge hgg).1;have e:=zO e;omega));have q3:QRow s3 wS.heap.size v zs:=q2.keep (fun gg hgg=>b3.block _ (q2.ge hgg).2);have hnew:=zQ e3;have hs3:=b3.size;obtain⟨v',s4,hrun,q4,g4,hown⟩:=q3.push 192 i s s2.heap.size 1 hz ((zC hnew 0).trans rfl) ((zC hnew 1).trans rfl) (by omega);obtain⟨s5,e5⟩:∃s5,s4.setCell ⟨p.bq,0,none⟩ v'=s5:=⟨_,rfl⟩;have o5:Oth p.bq s4 s5:=zV e5;have hvlt:∀b,v.ownBlock=some b→wS.heap.size≤b∧b<W.heap.size:=fun b hb=>h.row.ge hb;have k34:∀b,b<s2.heap.size→v.ownBlock≠some b→s4.heap[b]?=s2.heap[b]?:=fun b hb hn=>(g4.block b (by omega) (fun e=>hn e.symm)).trans (b3.block b hb);have hque2:s2.heap[p.bq]?=some (.cells #[v] 192 (0,0)):=(o2.block _ (by omega) (fun e=>hgbq (zO e).symm)).trans h.que;have hbqv:v.ownBlock≠some p.bq:=fun e=>by have:=(hvlt _ e).1;omega
 have hque4:s4.heap[p.bq]?=some (.cells #[v] 192 (0,0)):=(k34 _ (by omega) hbqv).trans hque2;have hs4:=g4.size;have K34:Kpt (p.Q q v) s2 s4:=⟨g4.os.trans b3.os,g4.tape.trans b3.tape,g4.output.trans b3.output,by omega,fun b hb hq=>k34 b hb hq.2.2⟩;have K45:Kpt (p.Q q v) s4 s5:=Kpt.of_oth o5 (fun b hb=>hb.2.1.2.2.2);have K25:Kpt (p.Q q v) s2 s5:=K34.trans K45 (fun _ _ h=>h);have hs5:=o5.size;have hQ:∀b,b<s2.heap.size→p.Q q v b→p.Q q v' b:=fun b hb hq=>⟨hq.1,hq.2.1,fun e=>by
  rcases hown b e with e' | e'
  ·exact hq.2.2 e'
  omega⟩
 have stay:∀b,b<wS.heap.size→b≠p.bq→s5.heap[b]?=s2.heap[b]?:=fun b hb hn=>(o5.block b (by omega) (fun e=>hn (zO e))).trans (k34 b (by omega) (fun e=>by have:=(hvlt _ e).1;omega));have fr2:Kpt p.F wS s2:=h.frame.trans (Kpt.of_oth o2 (fun b hb=>by
  rcases hg with⟨_,rfl⟩ | ⟨_,rfl⟩
  ·exact hb.2.2.1
  exact hb.2.2.2.1)) (fun _ _ h=>h)
 have hv'ge:∀b,v'.ownBlock=some b→wS.heap.size≤b:=fun b hb=>(q4.ge hb).1;have hcache:Cache ks fs p.Mb (p.Q q v') s5:=by
  have c2:Cache ks fs p.Mb (fun b=>p.Q q v b∧p.Q q v' b) s2:=h.cache.keep (row:=some g) o2 (fun e=>hgM (zO e).symm) (fun b hb _ e=>hgq b hb (zO e)) (fun b hb hq=>⟨hq,hQ b (by omega) hq⟩);have c3:Cache ks fs p.Mb (fun b=>p.Q q v b∧p.Q q v' b) s3:=c2.below b3;have c4:Cache ks fs p.Mb (fun b=>p.Q q v b∧p.Q q v' b) s4:=c3.keep (row:=v.ownBlock) g4 (fun e=>by have:=(hvlt _ e.symm).1;omega) (fun b hb _ e=>hb.1.2.2 e.symm) (fun _ _ h=>h);exact c4.keep (row:=some p.bq) o5 (fun e=>m4 (zO e).symm) (fun b hb _ e=>hb.1.2.1.2.2.2 (zO e)) (fun _ _ h=>h.2)
 refine⟨s1,s2,s3,e1,e2,e3,⟨y,(zC hcur _).trans c1,(zC hcur1 _).trans ?_⟩,⟨zF hcur _,zF hcur1 _⟩,⟨(zC hque2 0).trans rfl,sz2⟩,v',s4,s5,hrun,(zC hque4 0).trans rfl,zF hque4 0,e5,zH ⟨U-1,by omega,?_,k2.trans K25 (fun _ _ h=>h),fun b hb hq=>hQ b (by omega) hq⟩⟩
 ·simp only[Array.set!_eq_setIfInBounds];rw[Array.getElem?_setIfInBounds,if_neg (by omega)];exact c2
 refine⟨(stay _ l1 n3).trans ((o2.block _ (by omega) (fun e=>hgb (zO e).symm)).trans h.best),r12.1.keep K25 (stay _ l2 n5) hQ (fun _ _=>rfl) (zN _),r12.2.keep K25 (stay _ l3 n6) hQ (fun _ _=>rfl) (zN _),?_,?_,hcache,?_,by omega,by omega⟩
 ·rw[←e5];simp[World.setCell,zM,hque4]
 ·refine q4.keep (fun gg hgg=>o5.block _ (q4.ge hgg).2 (fun e=>?_));have:=hv'ge gg hgg;have e:=zO e;omega
 exact⟨(K25.os).trans fr2.os,K25.tape.trans fr2.tape,K25.output.trans fr2.output,by have:=fr2.size;omega,fun b hb hF=>(stay b hb hF.2.2.2.2).trans (fr2.block b hb hF)⟩
theorem proofInfo:(Tryz.prog.info? 39).map (fun i=>(i.zero,i.size,i.bytes))=some (some (.agg #[.int .i64 0,.slice none 0 0,.slice none 0 0,.slice none 0 0]),4,80):=by kernel_rfl
theorem ownsRow_keep{w w':World}{base:Nat}{e:TypeId}{size n:Nat}{v:Value}{xs:List Value}(h:w.ownsRow base e size v n xs)(hk:∀g,v.ownBlock=some g→w'.heap[g]?=w.heap[g]?):w'.ownsRow base e size v n xs:=by
 refine⟨h.1,h.2.imp id ?_⟩;rintro⟨g,cap,cur,rfl,hb,hg,rest⟩;exact⟨g,cap,cur,rfl,hb,(hk g rfl).trans hg,rest⟩
def PQ(q:Nat→Prop)(gq gr:Nat)(v:Value)(b:Nat):Prop:=q b∧(b≠gq∧b≠gr)∧v.ownBlock≠some b
structure POk(q:Nat→Prop)(gq gr Mb:Nat)(w6:World):Prop where
 lt:gq<w6.heap.size∧gr<w6.heap.size∧Mb<w6.heap.size
 ne:gq≠gr∧gq≠Mb∧gr≠Mb
 qM:∀b,q b→b≠Mb
 qS:∀b,w6.heap.size≤b→q b
structure PSt(ks:List Int)(fs:List Fact)(q:Nat→Prop)(gq gr Mb:Nat)(w6:World)(os:List Pf)(n:Nat)(ix:Int)(A:Option Addr)(c:Nat)(W:World):Prop where
 len:os.length=n
 blk:W.heap[gq]?=some (.cells #[.int .i64 ix,.slice A n c,.slice none 0 0,.slice none 0 0] 39 (0,0))
 own:∃xs,W.ownsRow w6.heap.size 39 4 (.slice A n c) n xs∧PRow (PQ q gq gr (.slice A n c)) W os xs
 cache:Cache ks fs Mb (PQ q gq gr (.slice A n c)) W
 frame:Kpt (fun b=>b≠Mb∧b≠gq) w6 W
section
variable {ks:List Int} {fs:List Fact} {q:Nat→Prop} {gq gr Mb:Nat} {w6 W W':World} {os:List Pf} {n:Nat} {ix:Int} {A:Option Addr} {c:Nat}
theorem PSt.own_lt(h:PSt ks fs q gq gr Mb w6 os n ix A c W){b:Nat}(hb:(Value.slice A n c).ownBlock=some b):w6.heap.size≤b∧b<W.heap.size:=by
 obtain⟨xs,h1,_⟩:=h.own;exact h1.lt b hb
theorem PSt.qnew(h:PSt ks fs q gq gr Mb w6 os n ix A c W)(hok:POk q gq gr Mb w6):∀b,W.heap.size≤b→PQ q gq gr (.slice A n c) b:=fun b hb=>by
 have h1:=h.frame.size;obtain⟨l1,l2,l3⟩:=hok.lt;refine⟨hok.qS b (by omega),⟨by omega,by omega⟩,fun e=>?_⟩;have:=(h.own_lt e).2;omega
theorem PSt.qM(h:PSt ks fs q gq gr Mb w6 os n ix A c W)(hok:POk q gq gr Mb w6):∀b,PQ q gq gr (.slice A n c) b→b≠Mb:=fun b hb=>hok.qM b hb.1
theorem PSt.oth(h:PSt ks fs q gq gr Mb w6 os n ix A c W)(hok:POk q gq gr Mb w6)(ho:Oth Mb W W')(hC:Cache ks fs Mb (PQ q gq gr (.slice A n c)) W'):PSt ks fs q gq gr Mb w6 os n ix A c W':=by
 obtain⟨l1,l2,l3⟩:=hok.lt;obtain⟨n1,n2,n3⟩:=hok.ne;obtain⟨xs,h1,h2⟩:=h.own;refine⟨h.len,ho.heap h.blk n2,⟨xs,ownsRow_keep h1 (fun g hg=>ho.block g (h1.lt g hg).2 (fun e=>?_)),h2.keep (fun b hb hlt=>ho.block b hlt (fun e=>hok.qM b hb.1 (zO e))) ho.size (fun _ _ h=>h)⟩,hC,h.frame.trans (Kpt.of_oth ho (fun b hb=>hb.1)) (fun _ _ h=>h)⟩;have:=(h1.lt g hg).1;have:=zO e;omega
theorem PSt.below(h:PSt ks fs q gq gr Mb w6 os n ix A c W)(hok:POk q gq gr Mb w6)(hb:Below W.heap.size W W'):PSt ks fs q gq gr Mb w6 os n ix A c W' :=
 h.oth hok (zE hb) (h.cache.below hb)
theorem PSt.setIx(h:PSt ks fs q gq gr Mb w6 os n ix A c W)(hok:POk q gq gr Mb w6)(ix':Int) :
  ∃s,W.setCell ⟨gq,0,none⟩ (.int .i64 ix')=s∧(W.cell? ⟨gq,0,none⟩=some (.int .i64 ix)∧W.frozen? ⟨gq,0,none⟩=false)∧PSt ks fs q gq gr Mb w6 os n ix' A c s:=by
 obtain⟨l1,l2,l3⟩:=hok.lt;obtain⟨n1,n2,n3⟩:=hok.ne;obtain⟨xs,h1,h2⟩:=h.own;have ho:Oth gq W (W.setCell ⟨gq,0,none⟩ (.int .i64 ix')):=Oth.set _ _;refine⟨_,rfl,⟨zC h.blk 0,zF h.blk 0⟩,h.len,by simp[World.setCell,zM,h.blk],⟨xs,ownsRow_keep h1 (fun g hg=>ho.block g (h1.lt g hg).2 (fun e=>?_)),h2.keep (fun b hb hlt=>ho.block b hlt (fun e=>hb.2.1.1 (zO e))) ho.size (fun _ _ h=>h)⟩,?_,h.frame.trans (Kpt.of_oth ho (fun b hb=>hb.2)) (fun _ _ h=>h)⟩
 ·have:=(h1.lt g hg).1;have:=zO e;omega
 exact h.cache.keep (row:=some gq) ho (fun e=>n2 (zO e).symm) (fun b hb _ e=>hb.2.1.1 (zO e)) (fun _ _ h=>h)
theorem PSt.push0(h:PSt ks fs q gq gr Mb w6 os n ix A c W)(hok:POk q gq gr Mb w6){p:Pf}{ix1:Int}{A1 A2 A3:Option Addr}{n1 n2 n3 c1 c2 c3:Nat}(hp:PfP (PQ q gq gr (.slice A n c)) W p (.int .i64 ix1) (.slice A1 n1 c1) (.slice A2 n2 c2) (.slice A3 n3 c3))(hn:n≤100000) :
  ∃s3,W.alloc (.cells #[.int .i64 ix1,.slice A1 n1 c1,.slice A2 n2 c2,.slice A3 n3 c3] 39)=s3∧∃A' c' s4,(Builtin.append_ #[36,36] 36 #[.slice A n c,.slice (some ⟨W.heap.size,0,none⟩) 1 1]).run Tryz.prog s3=.ok (.slice A' (n+1) c') s4 ∧
   s4.heap[gq]?=some (.cells #[.int .i64 ix,.slice A n c,.slice none 0 0,.slice none 0 0] 39 (0,0)) ∧
   ∀s5 ix',Oth gq s4 s5→s5.heap[gq]?=some (.cells #[.int .i64 ix',.slice A' (n+1) c',.slice none 0 0,.slice none 0 0] 39 (0,0))→PSt ks fs q gq gr Mb w6 (os++[p]) (n+1) ix' A' c' s5:=by
 obtain⟨l1,l2,l3⟩:=hok.lt;obtain⟨m1,m2,m3⟩:=hok.ne;obtain⟨xs,h1,h2⟩:=h.own;have hfs:=h.frame.size;obtain⟨i0,hi,hz0,hz1,hz2⟩:=info_parts proofInfo;obtain⟨s3,e3⟩:∃s3,W.alloc (.cells #[.int .i64 ix1,.slice A1 n1 c1,.slice A2 n2 c2,.slice A3 n3 c3] 39)=s3:=⟨_,rfl⟩;have b3:=zG e3;have q3:=zQ e3;have sz3:=b3.size;have sz3':=zL q3;have o3:s3.ownsRow w6.heap.size 39 4 (.slice A n c) n xs:=ownsRow_keep h1 (fun g hg=>b3.block g (h1.lt g hg).2);obtain⟨v',s4,hrun,o4,g4,_,hloc⟩:=run_append_own_at (P:=Tryz.prog) (w:=s3) w6.heap.size 36 36 39 i0 _ 4 80 Tryz.underlying36 hi hz0 hz1 hz2 rfl (by decide) _ n xs o3 ⟨W.heap.size,0,none⟩ 1 1 [.int .i64 ix1,.slice A1 n1 c1,.slice A2 n2 c2,.slice A3 n3 c3] rfl (fun j u hj=>by
  rw[ocell_add,zC q3];simpa using hj) (fun u hu=>by
  simp only[List.mem_cons,List.not_mem_nil,or_false] at hu;rcases hu with rfl | rfl | rfl | rfl <;> rfl) (by unfold maxLen;omega) (by omega) (by omega)
 obtain⟨A',c',rfl,hc'⟩:=own_form o4;have sz4:=g4.size;have hown:∀b,(Value.slice A n c).ownBlock=some b→w6.heap.size≤b∧b<W.heap.size:=fun b hb=>h1.lt b hb;have hown':∀b,(Value.slice A' (n+1) c').ownBlock=some b→w6.heap.size≤b:=fun b hb=>(o4.lt b hb).1;have k34:∀b,b<W.heap.size→(Value.slice A n c).ownBlock≠some b→s4.heap[b]?=W.heap[b]?:=fun b hb hne=>(g4.block b (by omega) (fun e=>hne e.symm)).trans (b3.block b hb);have hQ:∀b,b<W.heap.size→PQ q gq gr (.slice A n c) b→PQ q gq gr (.slice A' (n+1) c') b:=fun b hb hq=>⟨hq.1,hq.2.1,fun e=>by
  rcases hloc with e' | e'
  ·exact hq.2.2 (e' ▸ e)
  rw[e'] at e;have:=zO e;omega⟩
 have hgqv:(Value.slice A n c).ownBlock≠some gq:=fun e=>by have:=(hown _ e).1;omega
 have blk4:s4.heap[gq]?=some (.cells #[.int .i64 ix,.slice A n c,.slice none 0 0,.slice none 0 0] 39 (0,0)):=(k34 gq (by omega) hgqv).trans h.blk;refine⟨s3,e3,A',c',s4,hrun,blk4,fun s5 ix' ho5 hblk5=>?_⟩;have sz5:=ho5.size;have k35:∀b,PQ q gq gr (.slice A n c) b→b<W.heap.size→s5.heap[b]?=W.heap[b]?:=fun b hq hb=>(ho5.block b (by omega) (fun e=>hq.2.1.1 (zO e))).trans (k34 b hb hq.2.2);refine⟨by rw[Zq,h.len];rfl,hblk5,⟨_,ownsRow_keep o4 (fun g hg=>ho5.block g (o4.lt g hg).2 (fun e=>?_)),PRow.append (PRow.one (PfP.keep k35 (by omega) hQ _ _ _ _ _ hp)) (h2.keep k35 (by omega) hQ)⟩,?_,?_⟩
 ·have:=hown' g hg;have:=zO e;omega
 ·have c3:Cache ks fs Mb (fun b=>PQ q gq gr (.slice A n c) b∧PQ q gq gr (.slice A' (n+1) c') b) s3:=(h.cache.keep (row:=none) ⟨rfl,rfl,rfl,zN _,fun _ _ _=>rfl⟩ (fun e=>by cases e) (fun _ _ _ e=>by cases e) (fun b hb hq=>⟨hq,hQ b hb hq⟩)).below b3;have c4:=c3.keep (q':=fun b=>PQ q gq gr (.slice A' (n+1) c') b) (row:=(Value.slice A n c).ownBlock) g4 (fun e=>by have:=(hown _ e.symm).1;omega) (fun b hb _ e=>hb.1.2.2 e.symm) (fun _ _ h=>h.2);exact c4.keep (row:=some gq) ho5 (fun e=>m2 (zO e).symm) (fun b hb _ e=>hb.2.1.1 (zO e)) (fun _ _ h=>h)
 refine⟨ho5.os.trans (g4.os.trans (b3.os.trans h.frame.os)),ho5.tape.trans (g4.tape.trans (b3.tape.trans h.frame.tape)),ho5.output.trans (g4.output.trans (b3.output.trans h.frame.output)),by omega,fun b hb hn=>?_⟩;exact(ho5.block b (by omega) (fun e=>hn.2 (zO e))).trans ((k34 b (by omega) (fun e=>by have:=(hown _ e).1;omega)).trans (h.frame.block b hb hn))
theorem PSt.push(h:PSt ks fs q gq gr Mb w6 os n ix A c W)(hok:POk q gq gr Mb w6){p:Pf}{ix1:Int}{A1 A2 A3:Option Addr}{n1 n2 n3 c1 c2 c3:Nat}(hp:PfP (PQ q gq gr (.slice A n c)) W p (.int .i64 ix1) (.slice A1 n1 c1) (.slice A2 n2 c2) (.slice A3 n3 c3))(hn:n≤100000) :
  ∃s3,W.alloc (.cells #[.int .i64 ix1,.slice A1 n1 c1,.slice A2 n2 c2,.slice A3 n3 c3] 39)=s3∧∃A' c' s4 s5,(Builtin.append_ #[36,36] 36 #[.slice A n c,.slice (some ⟨W.heap.size,0,none⟩) 1 1]).run Tryz.prog s3=.ok (.slice A' (n+1) c') s4 ∧
   (s4.cell? ⟨gq,1,none⟩=some (.slice A n c)∧s4.frozen? ⟨gq,1,none⟩=false)∧s4.setCell ⟨gq,1,none⟩ (.slice A' (n+1) c')=s5∧PSt ks fs q gq gr Mb w6 (os++[p]) (n+1) ix A' c' s5:=by
 obtain⟨s3,e3,A',c',s4,hr,hb,hk⟩:=h.push0 hok hp hn;exact⟨s3,e3,A',c',s4,_,hr,⟨zC hb 1,zF hb 1⟩,rfl,hk _ ix (Oth.set _ _) (by simp[World.setCell,zM,hb])⟩
theorem PSt.pushI(h:PSt ks fs q gq gr Mb w6 os n ix A c W)(hok:POk q gq gr Mb w6){p:Pf}{ix1:Int}{A1 A2 A3:Option Addr}{n1 n2 n3 c1 c2 c3:Nat}(hp:PfP (PQ q gq gr (.slice A n c)) W p (.int .i64 ix1) (.slice A1 n1 c1) (.slice A2 n2 c2) (.slice A3 n3 c3))(hn:n≤100000)(ix':Int) :
  ∃s3,W.alloc (.cells #[.int .i64 ix1,.slice A1 n1 c1,.slice A2 n2 c2,.slice A3 n3 c3] 39)=s3∧∃A' c' s4 s5 s6,(Builtin.append_ #[36,36] 36 #[.slice A n c,.slice (some ⟨W.heap.size,0,none⟩) 1 1]).run Tryz.prog s3=.ok (.slice A' (n+1) c') s4 ∧
   (s4.cell? ⟨gq,0,none⟩=some (.int .i64 ix)∧s4.frozen? ⟨gq,0,none⟩=false)∧s4.setCell ⟨gq,0,none⟩ (.int .i64 ix')=s5∧(s5.cell? ⟨gq,1,none⟩=some (.slice A n c)∧s5.frozen? ⟨gq,1,none⟩=false)∧s5.setCell ⟨gq,1,none⟩ (.slice A' (n+1) c')=s6∧PSt ks fs q gq gr Mb w6 (os++[p]) (n+1) ix' A' c' s6:=by
 obtain⟨s3,e3,A',c',s4,hr,hb,hk⟩:=h.push0 hok hp hn;obtain⟨s5,e5⟩:∃s5,s4.setCell ⟨gq,0,none⟩ (.int .i64 ix')=s5:=⟨_,rfl⟩;have hb5:s5.heap[gq]?=some (.cells #[.int .i64 ix',.slice A n c,.slice none 0 0,.slice none 0 0] 39 (0,0)):=zU hb e5;refine⟨s3,e3,A',c',s4,s5,_,hr,⟨zC hb 0,zF hb 0⟩,e5,⟨zC hb5 1,zF hb5 1⟩,rfl,hk _ ix' (Oth.trans (zV e5) (Oth.set _ _)) (by simp[World.setCell,zM,hb5])⟩
theorem PSt.othw(h:PSt ks fs q gq gr Mb w6 os n ix A c W){w:World}(hw:Oth Mb w w6)(hge:w.heap.size≤gq):Oth Mb w W :=
 ⟨h.frame.os.trans hw.os,h.frame.tape.trans hw.tape,h.frame.output.trans hw.output,zR hw.size h.frame.size,fun b hb hn=>(h.frame.block b (Zl hb hw.size) ⟨fun e=>hn (by rw[e]),by omega⟩).trans (hw.block b hb hn)⟩
theorem PSt.pf(h:PSt ks fs q gq gr Mb w6 os n ix A c W)(hok:POk q gq gr Mb w6):PfP (fun b=>q b∧b≠gr) W (.node os) (.int .i64 ix) (.slice A n c) (.slice none 0 0) (.slice none 0 0):=by
 obtain⟨l1,l2,l3⟩:=hok.lt;obtain⟨xs,h1,h2⟩:=h.own;rw[PfP];refine⟨⟨ix,rfl⟩,⟨A,c,by rw[h.len],?_,fun hne=>?_⟩,⟨none,0,0,rfl,by omega,LkO.nil⟩,⟨none,0,0,rfl,by omega,LkO.nil⟩⟩
 ·rw[h.len];obtain⟨A',c',e,hc⟩:=own_form h1;injection e with _ _ e3;omega
 rcases h1.2 with⟨_,e0⟩ | ⟨g,cap,cur,hv,hbg,hg,hnc,_,_,_⟩
 ·exact absurd (Zz (h.len.trans e0)) hne
 injection hv with e1 _ e3;subst e1 e3;refine⟨g,0,rfl,zL hg,⟨hok.qS g hbg,by omega⟩,?_⟩;refine(PRow.keep (fun _ _ _=>rfl) (zN _) (fun b _ hb=>⟨hb.1,hb.2.1.2⟩) h2).lie (fun j u hj=>?_);have:=h1.cells (g:=g) rfl j u hj;rw[ocell_add] at this;simpa using this
theorem PSt.init(hb:W.heap[gq]?=some (.cells #[.int .i64 ix,.slice none 0 0,.slice none 0 0,.slice none 0 0] 39 (0,0)))(hC:Cache ks fs Mb (PQ q gq gr (.slice none 0 0)) W):PSt ks fs q gq gr Mb W [] 0 ix none 0 W :=
 ⟨rfl,hb,⟨[],World.ownsRow_nil W W.heap.size _ 4,by rw[PRow]⟩,hC,Kpt.refl _ _⟩
end
def PrvA(ks:List Int)(fs:List Fact)(Mb:Nat)(q:Nat→Prop)(w:World)(N:Nat)(r:Prop)(e:Ending)(w':World):Prop :=
 (∃(pf:Pf)(ix:Int)(A A1 A2:Option Addr)(n n1 n2 c c1 c2:Nat)(b:Bool),e=.returned (.tuple #[.agg #[.int .i64 ix,.slice A n c,.slice A1 n1 c1,.slice A2 n2 c2],.bool b])∧PfP q w' pf (.int .i64 ix) (.slice A n c) (.slice A1 n1 c1) (.slice A2 n2 c2)∧pf.size≤N∧(b=true↔r))∧Cache ks fs Mb q w'∧Oth Mb w w'
theorem prv_fin{ks:List Int}{fs:List Fact}{q:Nat→Prop}{gr Mb N:Nat}{w W:World}{pf:Pf}{ix:Int}{A A1 A2:Option Addr}{n n1 n2 c c1 c2:Nat}{a0 a1 a2 a3:Value}{b:Bool}{r:Prop}(hgr:W.heap[gr]?=some (.cells #[a0,a1,a2,a3] 39 (0,0)))
  (hp:PfP (fun b=>q b∧b≠gr) W pf (.int .i64 ix) (.slice A n c) (.slice A1 n1 c1) (.slice A2 n2 c2)) (hN:pf.size≤N) (hC:Cache ks fs Mb (fun b=>q b∧b≠gr) W) (ho:Oth Mb w W) (hge:w.heap.size≤gr) (hM:gr≠Mb) (hb:b=true↔r) :
  ∃s1 s2 s3 s4,W.setCell ⟨gr,0,none⟩ (.int .i64 ix)=s1∧s1.setCell ⟨gr,1,none⟩ (.slice A n c)=s2∧s2.setCell ⟨gr,2,none⟩ (.slice A1 n1 c1)=s3∧s3.setCell ⟨gr,3,none⟩ (.slice A2 n2 c2)=s4 ∧
   (W.cell? ⟨gr,0,none⟩=some a0∧s1.cell? ⟨gr,1,none⟩=some a1∧s2.cell? ⟨gr,2,none⟩=some a2∧s3.cell? ⟨gr,3,none⟩=some a3) ∧
   (W.frozen? ⟨gr,0,none⟩=false∧s1.frozen? ⟨gr,1,none⟩=false∧s2.frozen? ⟨gr,2,none⟩=false∧s3.frozen? ⟨gr,3,none⟩=false) ∧
   Hid (s4.heap[gr]?=some (.cells #[.int .i64 ix,.slice A n c,.slice A1 n1 c1,.slice A2 n2 c2] 39 (0,0))) ∧
   Hid (PrvA ks fs Mb q w N r (.returned (.tuple #[.agg #[.int .i64 ix,.slice A n c,.slice A1 n1 c1,.slice A2 n2 c2],.bool b])) s4):=by
 obtain⟨s1,s2,s3,s4,h1,h2,h3,h4,hc,hf,hq,hot⟩:=put4 hgr (.int .i64 ix) (.slice A n c) (.slice A1 n1 c1) (.slice A2 n2 c2);refine⟨s1,s2,s3,s4,h1,h2,h3,h4,hc,hf,zH hq,zH ⟨⟨pf,ix,A,A1,A2,n,n1,n2,c,c1,c2,b,rfl,PfP.keep (fun b hb hlt=>hot.block b hlt (fun e=>hb.2 (zO e))) hot.size (fun b _ hb=>hb.1) _ _ _ _ _ hp,hN,hb⟩,?_,?_⟩⟩
 ·exact hC.keep hot (fun e=>hM (zO e).symm) (fun b hb _ e=>hb.2 (zO e)) (fun b _ hb=>hb.1)
 exact⟨hot.os.trans ho.os,hot.tape.trans ho.tape,hot.output.trans ho.output,zR ho.size hot.size,fun k hk hn2=>(hot.block k (Zl hk ho.size) (fun e=>by have:=zO e;omega)).trans (ho.block k hk hn2)⟩
end
section
open Go.RowKit Go.Maps _root_.Lfc
def RelIs(L W B:Nat→Nat→Prop)(p:Ods)(rel:Int)(r:Prop):Prop:=(rel=1∧(r↔Ods.ls L W B p))∨(rel=2∧(r↔Ods.le L W B p))∨(rel=3∧(r↔Ods.eq W B p))
def Can(ks:List Int)(fs:List Fact)(Mb Bx:Nat)(L W B:Nat→Nat→Prop)(w:World)(p:Ods)(v:Value):Prop :=
 ∃ (T : TypeId) (a : Value) (f g : FuncId), v = .iface T a ∧ (∀ (k : Nat) (W : World), (method (k + 1) T a "lfcheck/order.prove").run Tryz.prog W = .ok (f, a) W) ∧ (∀ (k : Nat) (W : World), (method (k + 1) T a "lfcheck/order.weak").run Tryz.prog W = .ok (g, a) W) ∧
  ((∀(xs:Array Value)(W:World),(callFunc f xs).run Tryz.prog W=.ok (.enter f xs) W)∧(∀(xs:Array Value)(W:World),(callFunc g xs).run Tryz.prog W=.ok (.enter g xs) W)) ∧
  ∀(w1:World)(q:Nat→Prop),Oth Mb w w1→Cache ks fs Mb q w1→(∀b,w1.heap.size≤b→q b)→(∀b,q b→b≠Mb) →
   (∀rel r,RelIs L W B p rel r→Calls Tryz.prog f #[a,.pointer (some ⟨Bx,0,none⟩),.int .i64 rel] w1 (PrvA ks fs Mb q w1 p.size r))∧Calls Tryz.prog g #[a,.pointer (some ⟨Bx,0,none⟩)] w1 (PrvA ks fs Mb q w1 p.size (Ods.wk W B p))
theorem Can.oth{ks:List Int}{fs:List Fact}{Mb Bx:Nat}{L W B:Nat→Nat→Prop}{w w':World}{p:Ods}{v:Value}(h:Can ks fs Mb Bx L W B w p v)(ho:Oth Mb w w'):Can ks fs Mb Bx L W B w' p v:=by
 obtain⟨T,a,f,g,hv,h1,h2,h4,h3⟩:=h;exact⟨T,a,f,g,hv,h1,h2,h4,fun w1 q ho1=>h3 w1 q (ho.trans ho1)⟩
def Cans(ks:List Int)(fs:List Fact)(Mb Bx:Nat)(L W B:Nat→Nat→Prop)(w:World)(A:Option Addr)(ps:List Ods):Prop :=
 ∀i(h:i<ps.length),∃b o v,A=some ⟨b,o,none⟩∧b<w.heap.size∧b≠Mb∧w.cell? ⟨b,o+i,none⟩=some v∧Can ks fs Mb Bx L W B w ps[i] v
theorem Cans.oth{ks:List Int}{fs:List Fact}{Mb Bx:Nat}{L W B:Nat→Nat→Prop}{w w':World}{A:Option Addr}{ps:List Ods}(h:Cans ks fs Mb Bx L W B w A ps)(ho:Oth Mb w w'):Cans ks fs Mb Bx L W B w' A ps:=fun i hi=>by
 obtain⟨b,o,v,hA,hb,hM,hc,hcan⟩:=h i hi;exact⟨b,o,v,hA,Zl hb ho.size,hM,(ho.cell (p:=⟨b,o+i,none⟩) hb hM).trans hc,hcan.oth ho⟩
theorem Lfc.sizes_takeO(ps:List Ods)(k:Nat)(h:k<ps.length):Ods.sizes (ps.take (k+1))=Ods.sizes (ps.take k)+ps[k].size:=by
 induction ps generalizing k with
 |nil=>cases h
 |cons a r ih =>
  cases k with
  |zero=>simp[Ods.sizes]
  |succ k =>
   simp only[Zc,Ods.sizes,List.getElem_cons_succ];rw[ih k (by simpa using h)];omega
theorem Lfc.sizes_take_leO:∀(ps:List Ods)(k:Nat),Ods.sizes (ps.take k)≤Ods.sizes ps
 |[],k=>by simp[Ods.sizes]
 |a :: r,0=>by simp[Ods.sizes]
 |a :: r,k+1=>by
  have:=Lfc.sizes_take_leO r k;simp only[Zc,Ods.sizes];omega
def LpI(ks:List Int)(fs:List Fact)(q:Nat→Prop)(gq gr Mb:Nat)(w3:World)(ps:List Ods)(k:Nat)(ix:Int)(wr:World):Prop :=
 ∃os A c,PSt ks fs q gq gr Mb w3 os k ix A c wr∧Pf.sizes os≤Ods.sizes (ps.take k)
theorem drop_eqs{W B:Nat→Nat→Prop}{ps:List Ods}{k:Nat}(h:k<ps.length):Ods.eqs W B (ps.drop k)↔(Ods.eq W B ps[k]∧Ods.eqs W B (ps.drop (k+1))):=by
 rw[List.drop_eq_getElem_cons h,Ods.eqs]
theorem drop_lexL{L W B:Nat→Nat→Prop}{ps:List Ods}{k:Nat}(h:k<ps.length):Ods.lexL L W B (ps.drop k)↔(Ods.ls L W B ps[k]∨(Ods.eq W B ps[k]∧Ods.lexL L W B (ps.drop (k+1)))):=by
 rw[List.drop_eq_getElem_cons h,Ods.lexL]
theorem drop_les{L W B:Nat→Nat→Prop}{ps:List Ods}{k:Nat}(h:k<ps.length):Ods.les L W B (ps.drop k)↔(Ods.le L W B ps[k]∧Ods.les L W B (ps.drop (k+1))):=by
 rw[List.drop_eq_getElem_cons h,Ods.les]
theorem drop_wks{W B:Nat→Nat→Prop}{ps:List Ods}{k:Nat}(h:k<ps.length):Ods.wks W B (ps.drop k)↔(Ods.wk W B ps[k]∧Ods.wks W B (ps.drop (k+1))):=by
 rw[List.drop_eq_getElem_cons h,Ods.wks]
theorem drop_simL{L W B:Nat→Nat→Prop}{ps:List Ods}{k:Nat}(h:k<ps.length):Ods.simL L W B (ps.drop k)↔((Ods.ls L W B ps[k]∧Ods.les L W B (ps.drop (k+1)))∨(¬Ods.ls L W B ps[k]∧Ods.wk W B ps[k]∧Ods.simL L W B (ps.drop (k+1)))):=by
 rw[List.drop_eq_getElem_cons h,Ods.simL]
theorem Cache.weak{ks:List Int}{fs:List Fact}{Mb:Nat}{q q':Nat→Prop}{w:World}(h:Cache ks fs Mb q w)(hq:∀b,b<w.heap.size→q b→q' b):Cache ks fs Mb q' w :=
 h.keep (row:=none) ⟨rfl,rfl,rfl,zN _,fun _ _ _=>rfl⟩ (fun e=>by cases e) (fun _ _ _ e=>by cases e) hq
theorem lp_init{ks:List Int}{fs:List Fact}{q:Nat→Prop}{gr Mb:Nat}{w wB w3:World}{ps:List Ods}{ix:Int}(hw3:wB.alloc (.cells #[.int .i64 ix,.slice none 0 0,.slice none 0 0,.slice none 0 0] 39)=w3)(hge:gr<wB.heap.size)(hM:Mb<wB.heap.size)(hne:gr≠Mb)(hqM:∀b,q b→b≠Mb)(hqS:∀b,w.heap.size≤b→q b)(hws:w.heap.size≤wB.heap.size)(hC:Cache ks fs Mb (fun b=>q b∧b≠gr) wB) :
  Below wB.heap.size wB w3∧wB.heap.size<w3.heap.size∧POk q wB.heap.size gr Mb w3∧LpI ks fs q wB.heap.size gr Mb w3 ps 0 ix w3:=by
 have b3:Below wB.heap.size wB w3:=by rw[←hw3];exact(zB _ _).alloc (zN _) _
 have q3:w3.heap[wB.heap.size]?=some (.cells #[.int .i64 ix,.slice none 0 0,.slice none 0 0,.slice none 0 0] 39 (0,0)):=by rw[←hw3];exact zW _ _
 have l3:=zL q3;refine⟨b3,l3,⟨⟨l3,by omega,by omega⟩,⟨by omega,by omega,hne⟩,hqM,fun b hb=>hqS b (by omega)⟩,[],none,0,PSt.init q3 ((hC.weak (fun b hb hq=>⟨hq.1,⟨by omega,hq.2⟩,fun e=>by simp[Value.ownBlock] at e⟩)).below b3),by simp[Pf.sizes]⟩
theorem lpi_stay{ks:List Int}{fs:List Fact}{q:Nat→Prop}{gq gr Mb:Nat}{w3 W:World}{os:List Pf}{n:Nat}{ix:Int}{A:Option Addr}{c:Nat}(h:PSt ks fs q gq gr Mb w3 os n ix A c W){g:Nat}{o:Obj}(ho:w3.heap[g]?=some o)(hM:g≠Mb)(hq:g≠gq):W.heap[g]?=some o :=
 (h.frame.block g (zL ho) ⟨hM,hq⟩).trans ho
theorem lpi_next{ks:List Int}{fs:List Fact}{q:Nat→Prop}{gq gr Mb:Nat}{w3 W:World}{ps:List Ods}{os:List Pf}{k:Nat}{ix:Int}{A:Option Addr}{c:Nat}{pf:Pf}(hk:k<ps.length)(hz:Pf.sizes os≤Ods.sizes (ps.take k))(hp:pf.size≤ps[k].size)(h:PSt ks fs q gq gr Mb w3 (os++[pf]) (k+1) ix A c W):LpI ks fs q gq gr Mb w3 ps (k+1) ix W :=
 ⟨_,A,c,h,by rw[Pf.sizes_app,Lfc.sizes_takeO ps k hk];omega⟩
theorem lpi_fin{ks:List Int}{fs:List Fact}{q:Nat→Prop}{gq gr Mb k:Nat}{w w3 W:World}{ps:List Ods}{os:List Pf}{ix:Int}{A:Option Addr}{c:Nat}{a0 a1 a2 a3:Value}{b:Bool}{r:Prop}(h:PSt ks fs q gq gr Mb w3 os k ix A c W)(hok:POk q gq gr Mb w3)(hz:Pf.sizes os≤Ods.sizes (ps.take k))(hw:Oth Mb w w3)(hgr:w3.heap[gr]?=some (.cells #[a0,a1,a2,a3] 39 (0,0)))(hge:w.heap.size≤gr)(hgq:w.heap.size≤gq)(hb:b=true↔r) :
  ∃s1 s2 s3 s4,W.setCell ⟨gr,0,none⟩ (.int .i64 ix)=s1∧s1.setCell ⟨gr,1,none⟩ (.slice A k c)=s2∧s2.setCell ⟨gr,2,none⟩ (.slice none 0 0)=s3∧s3.setCell ⟨gr,3,none⟩ (.slice .none 0 0)=s4 ∧
   (W.cell? ⟨gr,0,none⟩=some a0∧s1.cell? ⟨gr,1,none⟩=some a1∧s2.cell? ⟨gr,2,none⟩=some a2∧s3.cell? ⟨gr,3,none⟩=some a3) ∧
   (W.frozen? ⟨gr,0,none⟩=false∧s1.frozen? ⟨gr,1,none⟩=false∧s2.frozen? ⟨gr,2,none⟩=false∧s3.frozen? ⟨gr,3,none⟩=false) ∧
   Hid (s4.heap[gr]?=some (.cells #[.int .i64 ix,.slice A k c,.slice none 0 0,.slice none 0 0] 39 (0,0))) ∧
   Hid (PrvA ks fs Mb q w (Ods.sizes ps+1) r (.returned (.tuple #[.agg #[.int .i64 ix,.slice A k c,.slice none 0 0,.slice none 0 0],.bool b])) s4) :=
 prv_fin (lpi_stay h hgr hok.ne.2.2 hok.ne.1.symm) (h.pf hok) (by have:=Lfc.sizes_take_leO ps k;rw[Pf.size];omega) (h.cache.weak (fun b _ hb=>⟨hb.1,hb.2.1.2⟩)) (h.othw hw hgq) hge hok.ne.2.2 hb
theorem lpi_none{ks:List Int}{fs:List Fact}{q:Nat→Prop}{gq gr Mb k:Nat}{w w3 W:World}{ps:List Ods}{os:List Pf}{ix:Int}{A:Option Addr}{c:Nat}{a0 a1 a2 a3:Value}{r:Prop}(h:PSt ks fs q gq gr Mb w3 os k ix A c W)(hok:POk q gq gr Mb w3)(hw:Oth Mb w w3)(hgr:w3.heap[gr]?=some (.cells #[a0,a1,a2,a3] 39 (0,0)))(hge:w.heap.size≤gr)(hgq:w.heap.size≤gq)(hb:¬r) :
  ∃s1 s2 s3 s4,W.setCell ⟨gr,0,none⟩ (.int .i64 0)=s1∧s1.setCell ⟨gr,1,none⟩ (.slice .none 0 0)=s2∧s2.setCell ⟨gr,2,none⟩ (.slice .none 0 0)=s3∧s3.setCell ⟨gr,3,none⟩ (.slice .none 0 0)=s4 ∧
   (W.cell? ⟨gr,0,none⟩=some a0∧s1.cell? ⟨gr,1,none⟩=some a1∧s2.cell? ⟨gr,2,none⟩=some a2∧s3.cell? ⟨gr,3,none⟩=some a3) ∧
   (W.frozen? ⟨gr,0,none⟩=false∧s1.frozen? ⟨gr,1,none⟩=false∧s2.frozen? ⟨gr,2,none⟩=false∧s3.frozen? ⟨gr,3,none⟩=false) ∧
   Hid (s4.heap[gr]?=some (.cells #[.int .i64 0,.slice .none 0 0,.slice .none 0 0,.slice .none 0 0] 39 (0,0))) ∧
   Hid (PrvA ks fs Mb q w (Ods.sizes ps+1) r (.returned (.tuple #[.agg #[.int .i64 0,.slice .none 0 0,.slice .none 0 0,.slice .none 0 0],.bool false])) s4) :=
 prv_fin (lpi_stay h hgr hok.ne.2.2 hok.ne.1.symm) (pfp_none 0) (by rw[Pf.size,Pf.sizes];omega) (h.cache.weak (fun b _ hb=>⟨hb.1,hb.2.1.2⟩)) (h.othw hw hgq) hge hok.ne.2.2 ⟨fun e=>(by cases e),fun e=>absurd e hb⟩
end
end Go.Proofs.YtadjpadieljjlaaGreat
