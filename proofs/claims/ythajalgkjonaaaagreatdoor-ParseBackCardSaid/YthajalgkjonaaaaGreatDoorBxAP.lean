/- Parts of the proof that no input makes the law false: PaWr, PaWt, ShelfI, PaWi, PaFt. -/
import Derived.Shelf.Strconv.Itoa1
import Derived.Shelf.LaysM
import Derived.Shelf.Strconv.Itoa2
import Derived.Shelf.Strconv.Itoa3
import Derived.Great.BuildSlice
import Derived.Test.YthajalgkjonaaaaGreatDoorBxAO
set_option linter.unusedVariables false
set_option linter.unusedSimpArgs false
set_option maxRecDepth 100000
set_option maxHeartbeats 32000000
namespace Go.Proofs.YthajalgkjonaaaaGreatDoor
section
open Go.RowKit
structure Kp(E E':Nat→Prop)(w w':World):Prop where
 os:w'.os=w.os
 tape:w'.tape=w.tape
 output:w'.output=w.output
 size:w.heap.size≤w'.heap.size
 keep:∀b,b<w.heap.size→¬E b→w'.heap[b]?=w.heap[b]?
 out:∀b,b<w.heap.size→¬E b→¬E' b
theorem Kp.refl(E:Nat→Prop)(w:World):Kp E E w w:=⟨rfl,rfl,rfl,zN _,fun _ _ _=>rfl,fun _ _ h=>h⟩
theorem Kp.trans{E E' E'':Nat→Prop}{w w' w'':World}(h:Kp E E' w w')(h':Kp E' E'' w' w''):Kp E E'' w w'' :=
 ⟨h'.os.trans h.os,h'.tape.trans h.tape,h'.output.trans h.output,zR h.size h'.size,fun b hb he=>(h'.keep b (Zl hb h.size) (h.out b hb he)).trans (h.keep b hb he),fun b hb he=>h'.out b (Zl hb h.size) (h.out b hb he)⟩
theorem Kp.of_below{E:Nat→Prop}{w w':World}(h:Below w.heap.size w w'):Kp E E w w':=⟨h.os,h.tape,h.output,h.size,fun b hb _=>h.block b hb,fun _ _ h=>h⟩
def WE(Wr:Nat)(A B:Option Addr)(b:Nat):Prop:=b=Wr∨(∃a,A=some a∧a.block=b)∨∃a,B=some a∧a.block=b
structure WrI(Wr:Nat)(W:World)(A:Option Addr)(c:Nat)(B:Option Addr)(d:Nat)(ws qs:List (List UInt8)):Prop where
 blk:W.heap[Wr]?=some (.cells #[.slice A ws.length c,.slice B qs.length d] 81 (0,0))
 own:W.ownsRow (Wr+1) 9 1 (.slice A ws.length c) ws.length (ws.map S)
 qwn:W.ownsRow (Wr+1) 9 1 (.slice B qs.length d) qs.length (qs.map S)
 dis:∀a a',A=some a→B=some a'→a.block≠a'.block
def WrR(Wr:Nat)(A B:Option Addr)(w:World)(ws qs:List (List UInt8))(w':World):Prop:=∃A' c' B' d',WrI Wr w' A' c' B' d' ws qs∧Kp (WE Wr A B) (WE Wr A' B') w w'
def WrA(Wr:Nat)(A B:Option Addr)(d:Nat)(w:World)(ws qs:List (List UInt8))(w':World):Prop:=∃A' c',WrI Wr w' A' c' B d ws qs∧Kp (WE Wr A B) (WE Wr A' B) w w'
theorem WrA.toR{Wr:Nat}{A B:Option Addr}{d:Nat}{w w':World}{ws qs:List (List UInt8)}(h:WrA Wr A B d w ws qs w'):WrR Wr A B w ws qs w':=by
 obtain⟨A',c',h1,h2⟩:=h;exact⟨A',c',B,d,h1,h2⟩
theorem WrI.lt{Wr:Nat}{W:World}{A B:Option Addr}{c d:Nat}{ws qs:List (List UInt8)}(h:WrI Wr W A c B d ws qs):Wr<W.heap.size:=zL h.blk
theorem WrI.own_type{Wr:Nat}{W:World}{A B:Option Addr}{c d:Nat}{ws qs:List (List UInt8)}(h:WrI Wr W A c B d ws qs):(∀a,A=some a→Wr<a.block∧∃cs,W.heap[a.block]?=some (.cells cs 9 (0,0)))∧∀a,B=some a→Wr<a.block∧∃cs,W.heap[a.block]?=some (.cells cs 9 (0,0)):=by
 have main:∀(X:Option Addr)(n x:Nat)(xs:List Value),W.ownsRow (Wr+1) 9 1 (.slice X n x) n xs→∀a,X=some a→Wr<a.block∧∃cs,W.heap[a.block]?=some (.cells cs 9 (0,0)):=by
  intro X n x xs hown a ha;rcases hown.2 with⟨e,_⟩ | ⟨g,cap,cur,e,hbg,hg,_⟩
  ·rw[ha] at e;cases e
  rw[ha] at e;injection e with e1 _ _;injection e1 with e1;subst e1;exact⟨by simp only;omega,_,hg⟩
 exact⟨main _ _ _ _ h.own,main _ _ _ _ h.qwn⟩
theorem WrI.not_E{Wr k:Nat}{W:World}{A B:Option Addr}{c d:Nat}{ws qs:List (List UInt8)}(h:WrI Wr W A c B d ws qs){cs:Array Value}{t:TypeId}{f:Nat × Nat}(hk:W.heap[k]?=some (.cells cs t f))(h1:t≠81)(h2:t≠9):¬WE Wr A B k:=by
 obtain⟨hA,hB⟩:=h.own_type;rintro (rfl | ⟨a,ha,rfl⟩ | ⟨a,ha,rfl⟩)
 ·rw[h.blk] at hk;cases hk;exact h1 rfl
 ·obtain⟨_,cs',e⟩:=hA a ha;rw[e] at hk;cases hk;exact h2 rfl
 obtain⟨_,cs',e⟩:=hB a ha;rw[e] at hk;cases hk;exact h2 rfl
theorem WrI.not_lt{Wr k:Nat}{W:World}{A B:Option Addr}{c d:Nat}{ws qs:List (List UInt8)}(h:WrI Wr W A c B d ws qs)(hk:k<Wr):¬WE Wr A B k:=by
 obtain⟨hA,hB⟩:=h.own_type;rintro (rfl | ⟨a,ha,rfl⟩ | ⟨a,ha,rfl⟩)
 ·omega
 ·have:=(hA a ha).1;omega
 have:=(hB a ha).1;omega
theorem WrI.not_new{Wr k:Nat}{W:World}{A B:Option Addr}{c d:Nat}{ws qs:List (List UInt8)}(h:WrI Wr W A c B d ws qs)(hk:W.heap.size≤k):¬WE Wr A B k:=by
 obtain⟨hA,hB⟩:=h.own_type;rintro (rfl | ⟨a,ha,rfl⟩ | ⟨a,ha,rfl⟩)
 ·have:=h.lt;omega
 ·obtain⟨_,cs',e⟩:=hA a ha;have:=zL e;omega
 obtain⟨_,cs',e⟩:=hB a ha;have:=zL e;omega
theorem WrI.below{Wr:Nat}{W W':World}{A B:Option Addr}{c d:Nat}{ws qs:List (List UInt8)}(h:WrI Wr W A c B d ws qs)(hb:Below W.heap.size W W'):WrI Wr W' A c B d ws qs:=by
 have hg:W.grownBy W' none:=⟨hb.os,hb.tape,hb.output,hb.size,fun k hk _=>hb.block k hk⟩;exact⟨(hb.block _ h.lt).trans h.blk,h.own.kept hg (by cases(Value.slice A ws.length c).ownBlock <;> simp),h.qwn.kept hg (by cases(Value.slice B qs.length d).ownBlock <;> simp),h.dis⟩
theorem Kp.below_of{Wr:Nat}{w w':World}{A B:Option Addr}{c d:Nat}{ws qs:List (List UInt8)}{E':Nat→Prop}(k:Kp (WE Wr A B) E' w w')(h:WrI Wr w A c B d ws qs){lo:Nat}(hlo:lo≤Wr):Below lo w w' :=
 ⟨k.os,k.tape,k.output,k.size,fun b hb=>k.keep b (by have:=h.lt;omega) (h.not_lt (by omega))⟩
theorem str_info:∃i,Tryz.prog.info? 9=some i∧i.zero=some (S [])∧i.size=1∧i.bytes=16:=by
 obtain⟨i0,hi,hz0,hz1,hz2⟩:=info_parts (show(Tryz.prog.info? 9).map (fun i=>(i.zero,i.size,i.bytes))=some (some (S []),1,16) by kernel_rfl);exact⟨i0,hi,hz0,hz1,hz2⟩
theorem strs_row{w:World}{X:Option Addr}{xs:List (List UInt8)}(hx:StrsAt w X xs):xs.length≠0→∃a,X=some a∧∀j u,(xs.map S)[j]?=some u→w.cell? (a.add j)=some u:=fun hne=>by
 obtain⟨b,o,hA,hlt,hc⟩:=hx (by intro e;rw[e] at hne;exact hne rfl);refine⟨_,hA,fun j u hj=>?_⟩;rw[List.getElem?_map,Option.map_eq_some_iff] at hj;obtain⟨s,hs,rfl⟩:=hj;obtain⟨hlt,rfl⟩:=List.getElem?_eq_some_iff.1 hs;have:=hc j hlt;rw[show(⟨b,o,none⟩:Addr).add j=⟨b,o+j,none⟩ by unfold Addr.add;split <;> simp_all];exact this
theorem strs_one(xs:List (List UInt8)):∀u∈xs.map S,u.oneCell'=true:=fun u hu=>by
 obtain⟨s,_,rfl⟩:=List.mem_map.1 hu;rfl
theorem WrI.push{Wr:Nat}{w w2:World}{A B A2:Option Addr}{c d c2:Nat}{ws qs xs:List (List UInt8)}(h:WrI Wr w A c B d ws qs)(hown:w2.ownsRow (Wr+1) 9 1 (.slice A2 (ws.length+xs.length) c2) (ws.length+xs.length) (ws.map S++xs.map S))(hg:w.grownBy w2 (Value.slice A ws.length c).ownBlock)
  (hat:(Value.slice A2 (ws.length+xs.length) c2).ownBlock=(Value.slice A ws.length c).ownBlock∨(Value.slice A2 (ws.length+xs.length) c2).ownBlock=some w.heap.size) :
  w2.heap[Wr]?=some (.cells #[.slice A ws.length c,.slice B qs.length d] 81 (0,0))∧WrA Wr A B d w (ws++xs) qs (w2.setCell ⟨Wr,0,none⟩ (.slice A2 (ws.length+xs.length) c2)):=by
 have hs:=hg.size;have hl:=h.lt;obtain⟨tA,tB⟩:=h.own_type;have hAne:(Value.slice A ws.length c).ownBlock≠some Wr:=fun e=>by have:=(h.own.lt _ e).1;omega
 have q1:w2.heap[Wr]?=some (.cells #[.slice A ws.length c,.slice B qs.length d] 81 (0,0)):=(hg.block Wr hl (fun e=>hAne e.symm)).trans h.blk;have o4:Oth Wr w2 (w2.setCell ⟨Wr,0,none⟩ (.slice A2 (ws.length+xs.length) c2)):=Oth.set _ _;have hA2:∀a,A2=some a→a.block≠Wr∧(some a.block=(Value.slice A ws.length c).ownBlock∨a.block=w.heap.size):=fun a ha=>by
  subst ha;refine⟨fun e=>by have:=(hown.lt a.block rfl).1;omega,?_⟩;rcases hat with e | e
  ·exact .inl e
  exact .inr (zO e)
 have hAo:∀b,some b=(Value.slice A ws.length c).ownBlock→∃a,A=some a∧a.block=b:=fun b hb=>by
  rcases A with _ | a
  ·cases hb
  exact⟨a,rfl,(zO hb).symm⟩
 refine⟨q1,A2,c2,⟨?_,?_,?_,?_⟩,?_⟩
 ·simp[World.setCell,zM,q1]
 ·have:=hown.kept o4 (Or.inr (fun e=>by have:=(hown.lt _ e).1;omega));simpa using this
 ·have q:=h.qwn.kept hg (by
   rcases B with _ | a'
   ·exact .inl rfl
   refine .inr fun e=>?_;obtain⟨a,ha,hb⟩:=hAo a'.block e;exact h.dis a a' ha rfl hb)
  exact q.kept o4 (Or.inr (fun e=>by have:=(q.lt _ e).1;omega))
 ·intro a a' ha ha';rcases(hA2 a ha).2 with e | e
  ·obtain⟨a0,h0,h1⟩:=hAo _ e;rw[←h1];exact h.dis a0 a' h0 ha'
  obtain⟨_,cs,hc⟩:=tB a' ha';have:=zL hc;omega
 refine⟨o4.os.trans hg.os,o4.tape.trans hg.tape,o4.output.trans hg.output,zR hs o4.size,fun b hb he=>?_,fun b hb he=>?_⟩
 ·rw[o4.block b (by omega) (fun e=>he (.inl (zO e))),hg.block b hb (fun e=>by
   obtain⟨a,ha,hab⟩:=hAo b e;exact he (.inr (.inl ⟨a,ha,hab⟩)))]
 rintro (rfl | ⟨a,ha,rfl⟩ | ⟨a,ha,rfl⟩)
 ·exact he (.inl rfl)
 ·rcases(hA2 a ha).2 with e | e
  ·obtain⟨a0,h0,h1⟩:=hAo _ e;exact he (.inr (.inl ⟨a0,h0,h1⟩))
  omega
 exact he (.inr (.inr ⟨a,ha,rfl⟩))
theorem WrR.then{Wr:Nat}{A B A1 B1:Option Addr}{w w1 w2:World}{ws qs:List (List UInt8)}(k:Kp (WE Wr A B) (WE Wr A1 B1) w w1)(h:WrR Wr A1 B1 w1 ws qs w2):WrR Wr A B w ws qs w2:=by
 obtain⟨A',c',B',d',hi,hk⟩:=h;exact⟨A',c',B',d',hi,k.trans hk⟩
theorem WrA.then{Wr:Nat}{A B A1:Option Addr}{d:Nat}{w w1 w2:World}{ws qs:List (List UInt8)}(k:Kp (WE Wr A B) (WE Wr A1 B) w w1)(h:WrA Wr A1 B d w1 ws qs w2):WrA Wr A B d w ws qs w2:=by
 obtain⟨A',c',hi,hk⟩:=h;exact⟨A',c',hi,k.trans hk⟩
theorem wadd_any{Wr:Nat}{w:World}{A B:Option Addr}{c d:Nat}{ws qs:List (List UInt8)}(h:WrI Wr w A c B d ws qs)(X:Option Addr)(cx:Nat)(xs:List (List UInt8))(hx:StrsAt w X xs)(hl:ws.length+xs.length<=1000000000) :
  Calls Tryz.prog 50 #[.pointer (some ⟨Wr,0,none⟩),.slice X xs.length cx] w fun e w'=>e=.returned (.tuple #[])/\WrA Wr A B d w (ws++xs) qs w':=by
 obtain⟨i0,hi,hz0,hz1,hz2⟩:=str_info;have HW:=zH h;have HX:=zH hx;have x0:=zC h.blk 0;simp at x0;have hlt:=h.lt;have HLM:Hid (ws.length+xs.length<=maxLen/\(ws.length+xs.length)*16<=140737488355328):=zH ⟨by unfold maxLen;omega,by omega⟩;clear h hx;go_enter Tryz.func50,Tryz.ntmps50;go_wp2_with (at_builtin;refine wpList_append_own_any _ rfl _ _ 36 rfl (Wr+1) 9 i0 (S []) 1 16 Tryz.underlying36 hi hz0 hz1 hz2 rfl (by decide) _ _ _ rfl HW.o.own X xs.length cx (xs.map S) rfl (by simp) (strs_row HX.o) (strs_one xs) HLM.o.1 HLM.o.2 hlt ?_);intro v' w2 hown2 hg2 hat2;obtain⟨A2,c2,rfl⟩:=own_form hown2;obtain⟨q1,hr⟩:=HW.o.push hown2 hg2 hat2;have y0:=zC q1 0;have f0:=zF q1 0;simp at y0;have HR:=zH hr;clear hown2 hg2 hat2 hr q1;go_wp2_with fail
 go_end0
 exact⟨rfl,HR.o⟩
theorem strs_new(w:World)(l:List (List UInt8)):StrsAt (w.alloc (.cells (l.map S).toArray 9)) (some ⟨w.heap.size,0,none⟩) l:=fun hne=>by
 have q:=zW w (.cells (l.map S).toArray 9);refine⟨_,_,rfl,zL q,fun i hi=>?_⟩;rw[Nat.zero_add,zC q i];simp[hi]
theorem wadd_new{Wr:Nat}{w:World}{A B:Option Addr}{c d:Nat}{ws qs:List (List UInt8)}(h:WrI Wr w A c B d ws qs)(xs:List (List UInt8))(hl:ws.length+xs.length≤1000000000) :
  Calls Tryz.prog 50 #[.pointer (some ⟨Wr,0,none⟩),.slice (some ⟨w.heap.size,0,none⟩) xs.length xs.length] (w.alloc (.cells (xs.map S).toArray 9)) fun e w'=>e=.returned (.tuple #[])∧WrA Wr A B d w (ws++xs) qs w':=by
 have b:Below w.heap.size w (w.alloc (.cells (xs.map S).toArray 9)):=(zB _ _).alloc (zN _) _;exact(wadd_any (h.below b) _ _ xs (strs_new w xs) hl).mono fun e w' hh=>⟨hh.1,WrA.then (Kp.of_below b) hh.2⟩
theorem Bld.keep{B b:Nat}{l:List UInt8}{w w':World}(h:Bld B b l w)(hk:∀(k:Nat)(c:Array Value)(t:TypeId)(f:Nat × Nat),w.heap[k]?=some (Obj.cells c t f)→t=5∨t=78→w'.heap[k]?=w.heap[k]?):Bld B b l w':=by
 have main:∀p,Lib.BuilderAtF 78 5 B b p (Lib.byteCells l) w→Lib.BuilderAtF 78 5 B b p (Lib.byteCells l) w':=by
  rintro p⟨hB,v,hb,hown,hne⟩;refine⟨hB,v,(hk _ _ _ _ hb (.inr rfl)).trans hb,⟨hown.1,?_⟩,hne⟩;rcases hown.2 with e | ⟨g,cap,cur,fz,e,hbg,hg,r⟩
  ·exact .inl e
  exact .inr ⟨g,cap,cur,fz,e,hbg,(hk _ _ _ _ hg (.inl rfl)).trans hg,r⟩
 rcases h with h | h
 ·exact .inl (main _ h)
 exact .inr (main _ h)
end
section
open Go.RowKit _root_.Lfc
theorem WrI.names{Wr:Nat}{w:World}{A B:Option Addr}{c d:Nat}{ws qs:List (List UInt8)}(h:WrI Wr w A c B d ws qs):NamesAt w B qs:=fun hne=>by
 rcases h.qwn.2 with⟨_,h0⟩ | ⟨g,cap,cur,hv,hbg,hg,_⟩
 ·omega
 have hv':=hv;injection hv' with e1 _ e3;subst e1 e3;refine⟨g,0,rfl,zL hg,fun k hk=>?_⟩;have:=h.qwn.cells (g:=g) rfl k (S qs[k]) (by simp[hk]);rw[show(⟨g,0,none⟩:Addr).add k=⟨g,0+k,none⟩ by unfold Addr.add;split <;> simp_all] at this;exact this
theorem wtree_any{Wr:Nat}{w:World}{A B:Option Addr}{c d:Nat}{ws qs:List (List UInt8)}(h:WrI Wr w A c B d ws qs)(t:Raw)(v:Value)(hv:TreeV w t v)(ht:t.size<=1000000)(hl:ws.length<=900000000)(hq:qs.length<=1000000) :
  Calls Tryz.prog 51 #[.pointer (some ⟨Wr,0,none⟩),v] w fun e w'=>e=.returned (.tuple #[])/\WrA Wr A B d w (ws++[t.fmt qs]) qs w':=by
 have hlt:=h.lt;obtain⟨⟨k,n,p,us⟩,rfl⟩:∃t',t=t':=⟨t,rfl⟩;obtain⟨D,g,rfl,hg,hD⟩:=hv.open_;obtain⟨w1,hw1⟩:∃w1,w.alloc (.cells (zT k n p D us g) 46)=w1:=⟨_,rfl⟩;have b1:=zG hw1;have q1:=zQ hw1;have h1:=h.below b1;have CF:=zH (fun W (hb:zb w1 W)=>format_any (.node k n p us) _ qs B d W (by omega) (hv.below (b1.trans (hb.mono b1.size))) (by omega) (h1.below hb).names);have SC:Hid (∀W,zb w1 W->(zc W w.heap.size 0 (zI k)/\zc W w.heap.size 1 (S n)/\zc W w.heap.size 2 (zI p)/\zc W w.heap.size 3 (.slice D us.length g))/\zc W Wr 1 (.slice B qs.length d)):=zH fun W hb=>by
  have e:=(hb.block _ (zL q1)).trans q1;exact⟨⟨zC e 0,zC e 1,zC e 2,zC e 3⟩,zC ((hb.block _ h1.lt).trans h1.blk) 1⟩
 have HW:=zH h1;have B1:=zH b1;have Q1:=zH q1;generalize (Raw.node k n p us).fmt qs=T at *;clear h h1 hv b1 hD q1;go_enter Tryz.func51,Tryz.ntmps51;go_upto_region 1 with fail;clear hw1;refine wp_region_held_drew (S:=fun W=>(zc W w.heap.size 0 (zI k)/\zc W w.heap.size 1 (S n)/\zc W w.heap.size 2 (zI p)/\zc W w.heap.size 3 (.slice D us.length g))/\zc W Wr 1 (.slice B qs.length d)) (by kernel_rfl) (SC.o _ (zB _ _).drew) (fun hH=>?_);refine tk 0 ?_;refine tk 1 ?_;refine tk 2 ?_;refine tk 3 ?_;refine tk 4 ?_;refine tk 5 ?_;refine rd1 6 (fun K hK=>?_);go_simp;go_at_call 109;refine(CF.o _ (zB _ _).drew).mono ?_;rintro e w2⟨rfl,b2⟩;have b2':zb w1 w2:=((zB _ _).drew).trans b2;refine hK.out _ _ ?_ (fun hH=>?_)
 ·exact SC.o _ b2'
 clear hK K;refine nrm ?_;have h2:=HW.o.below b2';have H2:=zH h2;have HQ:=zH ((b2'.block _ (zL Q1.o)).trans Q1.o);have CA:=zH (wadd_new h2 [T] (by simp;omega));have K2:=zH (Kp.of_below (E:=WE Wr A B) (B1.o.trans (b2'.mono B1.o.size)));have SA:Hid (∀o,zb w1 (w2.alloc o)):=zH fun o=>b2'.alloc b2'.size o;refine rd1 7 (fun K hK=>?_);go_simp;refine hK.out _ _ ?_ (fun hH=>?_)
 ·exact SC.o _ (SA.o _)
 clear hK K b2 b2' h2;refine nrm ?_;refine rd1 8 (fun K hK=>?_);go_simp;go_at_call 50;refine CA.o.mono ?_;rintro e w3⟨rfl,hr⟩;have HR:=zH hr;obtain⟨A3,c3,h3,k3⟩:=hr;have hq2:zk w2 w.heap.size (zT k n p D us g) 46:=HQ.o;have hq3:=(k3.keep _ (zL hq2) (H2.o.not_E hq2 (by decide) (by decide))).trans hq2;refine hK.out _ _ ?_ (fun hH=>?_)
 ·exact⟨⟨zC hq3 0,zC hq3 1,zC hq3 2,zC hq3 3⟩,zC h3.blk 1⟩
 clear hK K h3 k3 hq2 hq3;refine Zw ?_ _;go_wp2_with fail
 go_end0
 exact⟨rfl,WrA.then K2.o HR.o⟩
end
end Go.Proofs.YthajalgkjonaaaaGreatDoor
namespace Go.Proofs
open Go.Shelf
open Go.Lib in
open Go.Lib in
open Go.Lib in
open Go.Lib in
open Go.RowKit Go.Sort Go.Lib in
open Go.RowKit Go.Sort Go.Lib in
open Go.RowKit Go.Sort Go.Lib in
open Go.RowKit Go.Sort Go.Lib in
open Go.RowKit Go.Sort Go.Lib in
def Tryz.laysM171_ren:Go.Shelf.Ren:=⟨fun | 171=>52 | 243=>110 | 246=>164 | 283=>188 | 284=>189 | 285=>190 | 286=>191 | 129=>198 | 317=>197 | 318=>199 | 319=>200 | 320=>201 | 337=>202 | 338=>203 | n=>n,fun | 3=>3 | 9=>9 | 2=>2 | 4=>4 | 171=>213 | 0=>0 | 53=>106 | 37=>68 | 5=>5 | 173=>216 | 212=>223 | 51=>224 | 20=>20 | 213=>225 | 46=>226 | 232=>229 | 233=>230 | n=>n,fun | 17=>3 | 18=>4 | 19=>5 | n=>n⟩
theorem Tryz.laysM171:Go.Proofs.LaysM.n171 Tryz.prog Tryz.laysM171_ren:={
 mixed:=by kernel_rfl
 f129:=Tryz.func198.trans (congrArg some (by kernel_rfl))
 f171:=Tryz.func52.trans (congrArg some (by kernel_rfl))
 f243:=Tryz.func110.trans (congrArg some (by kernel_rfl))
 f246:=Tryz.func164.trans (congrArg some (by kernel_rfl))
 f283:=Tryz.func188.trans (congrArg some (by kernel_rfl))
 f284:=Tryz.func189.trans (congrArg some (by kernel_rfl))
 f285:=Tryz.func190.trans (congrArg some (by kernel_rfl))
 f286:=Tryz.func191.trans (congrArg some (by kernel_rfl))
 f317:=Tryz.func197.trans (congrArg some (by kernel_rfl))
 f318:=Tryz.func199.trans (congrArg some (by kernel_rfl))
 f319:=Tryz.func200.trans (congrArg some (by kernel_rfl))
 f320:=Tryz.func201.trans (congrArg some (by kernel_rfl))
 f337:=Tryz.func202.trans (congrArg some (by kernel_rfl))
 f338:=Tryz.func203.trans (congrArg some (by kernel_rfl))
 t0:=Tryz.underlying0
 a0:=Tryz.isAgg0
 z0:=Tryz.sizeOf0
 v0:=Tryz.zeroValue0
 t2:=Tryz.underlying2
 a2:=Tryz.isAgg2
 z2:=Tryz.sizeOf2
 v2:=Tryz.zeroValue2
 t3:=Tryz.underlying3
 a3:=Tryz.isAgg3
 z3:=Tryz.sizeOf3
 v3:=Tryz.zeroValue3
 t4:=Tryz.underlying4
 a4:=Tryz.isAgg4
 z4:=Tryz.sizeOf4
 v4:=Tryz.zeroValue4
 t5:=Tryz.underlying5
 a5:=Tryz.isAgg5
 z5:=Tryz.sizeOf5
 v5:=Tryz.zeroValue5
 t9:=Tryz.underlying9
 a9:=Tryz.isAgg9
 z9:=Tryz.sizeOf9
 v9:=Tryz.zeroValue9
 t20:=Tryz.underlying20
 a20:=Tryz.isAgg20
 z20:=Tryz.sizeOf20
 v20:=Tryz.zeroValue20
 t37:=Tryz.underlying68
 a37:=Tryz.isAgg68
 z37:=Tryz.sizeOf68
 v37:=Tryz.zeroValue68
 t46:=Tryz.underlying226
 a46:=Tryz.isAgg226
 z46:=Tryz.sizeOf226
 v46:=Tryz.zeroValue226
 t51:=Tryz.underlying224
 a51:=Tryz.isAgg224
 z51:=Tryz.sizeOf224
 v51:=Tryz.zeroValue224
 t53:=Tryz.underlying106
 a53:=Tryz.isAgg106
 z53:=Tryz.sizeOf106
 v53:=Tryz.zeroValue106
 t171:=Tryz.underlying213
 a171:=Tryz.isAgg213
 z171:=Tryz.sizeOf213
 v171:=Tryz.zeroValue213
 t173:=Tryz.underlying216
 a173:=Tryz.isAgg216
 z173:=Tryz.sizeOf216
 v173:=Tryz.zeroValue216
 t212:=Tryz.underlying223
 a212:=Tryz.isAgg223
 z212:=Tryz.sizeOf223
 v212:=Tryz.zeroValue223
 t213:=Tryz.underlying225
 a213:=Tryz.isAgg225
 z213:=Tryz.sizeOf225
 t232:=Tryz.underlying229
 a232:=Tryz.isAgg229
 z232:=Tryz.sizeOf229
 v232:=Tryz.zeroValue229
 t233:=Tryz.underlying230
 a233:=Tryz.isAgg230
 z233:=Tryz.sizeOf230
 v233:=Tryz.zeroValue230
 g17:=by kernel_rfl
 g18:=by kernel_rfl
 g19:=by kernel_rfl
 i0:=by kernel_rfl
 i2:=by kernel_rfl
 i3:=by kernel_rfl
 i4:=by kernel_rfl
 i5:=by kernel_rfl
 i9:=by kernel_rfl
 i20:=by kernel_rfl
 i37:=by kernel_rfl
 i46:=by kernel_rfl
 i51:=by kernel_rfl
 i53:=by kernel_rfl
 i171:=by kernel_rfl
 i173:=by kernel_rfl
 i212:=by kernel_rfl
 i232:=by kernel_rfl
 i233:=by kernel_rfl
 m17:=by kernel_rfl
 m18:=by kernel_rfl
 m19:=by kernel_rfl }
open Go.RowKit Go.Sort Go.Lib in
theorem Tryz.strconv_Itoa (n : Int) (h0 : -9223372036854775808 ≤ n) (h1 : n ≤ 9223372036854775807) (w : World) (htab : Lib.TabIs Tryz.prog w "internal/strconv.uint64pow10" .u64 Lib.pow10Tab) :
  Calls Tryz.prog 52 #[.int .i64 n] w fun e w'=>e=.returned (.string ⟨(Lib.itoa n).toArray⟩)∧∃k os,w'=grow (w.drewN k) os:=Any.strconv_Itoa Tryz.laysM171 n h0 h1 w htab
def Tryz.lays171_ren:Go.Shelf.Ren:=⟨fun | 171=>52 | 243=>110 | 246=>164 | 283=>188 | 284=>189 | 285=>190 | 286=>191 | 129=>198 | 317=>197 | 318=>199 | 319=>200 | 320=>201 | 337=>202 | 338=>203 | n=>n,fun | 3=>3 | 9=>9 | 2=>2 | 4=>4 | 171=>213 | 0=>0 | 53=>106 | 37=>68 | 5=>5 | 173=>216 | 212=>223 | 51=>224 | 20=>20 | 213=>225 | 46=>226 | 232=>229 | 233=>230 | n=>n,fun | 17=>3 | 18=>4 | 19=>5 | n=>n⟩
theorem Tryz.lays171:Go.Proofs.Lays.n171 Tryz.prog Tryz.lays171_ren:={
 mixed:=by kernel_rfl
 f129:=Tryz.func198.trans (congrArg some (by kernel_rfl))
 f171:=Tryz.func52.trans (congrArg some (by kernel_rfl))
 f243:=Tryz.func110.trans (congrArg some (by kernel_rfl))
 f246:=Tryz.func164.trans (congrArg some (by kernel_rfl))
 f283:=Tryz.func188.trans (congrArg some (by kernel_rfl))
 f284:=Tryz.func189.trans (congrArg some (by kernel_rfl))
 f285:=Tryz.func190.trans (congrArg some (by kernel_rfl))
 f286:=Tryz.func191.trans (congrArg some (by kernel_rfl))
 f317:=Tryz.func197.trans (congrArg some (by kernel_rfl))
 f318:=Tryz.func199.trans (congrArg some (by kernel_rfl))
 f319:=Tryz.func200.trans (congrArg some (by kernel_rfl))
 f320:=Tryz.func201.trans (congrArg some (by kernel_rfl))
 f337:=Tryz.func202.trans (congrArg some (by kernel_rfl))
 f338:=Tryz.func203.trans (congrArg some (by kernel_rfl))
 t0:=Tryz.underlying0
 a0:=Tryz.isAgg0
 z0:=Tryz.sizeOf0
 v0:=Tryz.zeroValue0
 t2:=Tryz.underlying2
 a2:=Tryz.isAgg2
 z2:=Tryz.sizeOf2
 v2:=Tryz.zeroValue2
 t3:=Tryz.underlying3
 a3:=Tryz.isAgg3
 z3:=Tryz.sizeOf3
 v3:=Tryz.zeroValue3
 t4:=Tryz.underlying4
 a4:=Tryz.isAgg4
 z4:=Tryz.sizeOf4
 v4:=Tryz.zeroValue4
 t5:=Tryz.underlying5
 a5:=Tryz.isAgg5
 z5:=Tryz.sizeOf5
 v5:=Tryz.zeroValue5
 t9:=Tryz.underlying9
 a9:=Tryz.isAgg9
 z9:=Tryz.sizeOf9
 v9:=Tryz.zeroValue9
 t20:=Tryz.underlying20
 a20:=Tryz.isAgg20
 z20:=Tryz.sizeOf20
 v20:=Tryz.zeroValue20
 t37:=Tryz.underlying68
 a37:=Tryz.isAgg68
 z37:=Tryz.sizeOf68
 v37:=Tryz.zeroValue68
 t46:=Tryz.underlying226
 a46:=Tryz.isAgg226
 z46:=Tryz.sizeOf226
 v46:=Tryz.zeroValue226
 t51:=Tryz.underlying224
 a51:=Tryz.isAgg224
 z51:=Tryz.sizeOf224
 v51:=Tryz.zeroValue224
 t53:=Tryz.underlying106
 a53:=Tryz.isAgg106
 z53:=Tryz.sizeOf106
 v53:=Tryz.zeroValue106
 t171:=Tryz.underlying213
 a171:=Tryz.isAgg213
 z171:=Tryz.sizeOf213
 v171:=Tryz.zeroValue213
 t173:=Tryz.underlying216
 a173:=Tryz.isAgg216
 z173:=Tryz.sizeOf216
 v173:=Tryz.zeroValue216
 t212:=Tryz.underlying223
 a212:=Tryz.isAgg223
 z212:=Tryz.sizeOf223
 v212:=Tryz.zeroValue223
 t213:=Tryz.underlying225
 a213:=Tryz.isAgg225
 z213:=Tryz.sizeOf225
 t232:=Tryz.underlying229
 a232:=Tryz.isAgg229
 z232:=Tryz.sizeOf229
 v232:=Tryz.zeroValue229
 t233:=Tryz.underlying230
 a233:=Tryz.isAgg230
 z233:=Tryz.sizeOf230
 v233:=Tryz.zeroValue230
 g17:=by kernel_rfl
 g18:=by kernel_rfl
 g19:=by kernel_rfl }
open Go.RowKit Go.Sort Go.Lib in
theorem Tryz.strconv_Itoa_small(i:Nat)(hi:i<100)(w:World) :
  Calls Tryz.prog 52 #[.int .i64 i] w fun e w'=>e=.returned (.string ⟨(Lib.decDigits i).toArray⟩)∧w'=w:=Any.strconv_Itoa_small Tryz.lays171 i hi w
end Go.Proofs
namespace Lfc
def dec(n:Nat):List UInt8:=Go.Lib.decDigits n
def fixWord(f:Int):List UInt8:=if f=1 then [37,112,114,101,102,105,120] else if f=2 then [37,112,111,115,116,102,105,120] else if f=3 then [37,105,110,102,105,120,32,110,111,110,101] else if f=4 then [37,105,110,102,105,120,32,108,101,102,116] else [37,105,110,102,105,120,32,114,105,103,104,116]
def optW(c:UInt8)(q:List (List UInt8)):List Raw→List (List UInt8)
 |[]=>[]
 |t :: _=>[[c],t.fmt q]
def Itm.words1(q:List (List UInt8))(x:Itm):List (List UInt8) :=
 if x.kind=3 then [fixWord x.op.fix,dec x.op.prec.toNat,x.op.name]
 else [x.name]++optW 58 q x.type++optW 61 q x.value
end Lfc
namespace Go.Proofs.YthajalgkjonaaaaGreatDoor
open Go.RowKit _root_.Lfc
structure Wst(Wr:Nat)(A B:Option Addr)(d:Nat)(w:World)(K:Nat)(cs:Array Value)(qs:List (List UInt8))(ws:List (List UInt8))(A':Option Addr)(c':Nat)(W:World):Prop where
 wr:WrI Wr W A' c' B d ws qs
 kp:Kp (WE Wr A B) (WE Wr A' B) w W
 box:W.heap[K]?=some (.cells cs 42 (0,0))
 bel:Below Wr w W
theorem Wst.step{Wr:Nat}{A B:Option Addr}{d:Nat}{w:World}{K:Nat}{cs:Array Value}{qs ws ws':List (List UInt8)}{A1:Option Addr}{c1:Nat}{W W':World}(h:Wst Wr A B d w K cs qs ws A1 c1 W)(ha:WrA Wr A1 B d W ws' qs W'):∃A' c',Wst Wr A B d w K cs qs ws' A' c' W':=by
 obtain⟨A',c',h1,h2⟩:=ha;exact⟨A',c',h1,h.kp.trans h2,(h2.keep K (zL h.box) (h.wr.not_E h.box (by decide) (by decide))).trans h.box,h.bel.trans (h2.below_of h.wr (zN _))⟩
theorem Wst.toA{Wr:Nat}{A B:Option Addr}{d:Nat}{w:World}{K:Nat}{cs:Array Value}{qs ws:List (List UInt8)}{A1:Option Addr}{c1:Nat}{W:World}(h:Wst Wr A B d w K cs qs ws A1 c1 W):WrA Wr A B d w ws qs W:=⟨A1,c1,h.wr,h.kp⟩
theorem Wst.start{Wr:Nat}{A B:Option Addr}{c d:Nat}{w:World}{qs ws:List (List UInt8)}(h:WrI Wr w A c B d ws qs)(cs:Array Value):Wst Wr A B d w w.heap.size cs qs ws A c (w.alloc (.cells cs 42)):=by
 have b:Below w.heap.size w (w.alloc (.cells cs 42)):=(zB _ _).alloc (zN _) _;exact⟨h.below b,Kp.of_below b,zW _ _,b.mono (by have:=h.lt;omega)⟩
theorem trees_head{w:World}{A:Option Addr}{t:Raw}{r:List Raw}(h:TreesAt w A (t :: r)):∃b o k n p us B c,A=some ⟨b,o,none⟩∧t=.node k n p us∧w.cell? ⟨b,o,none⟩=some (.int .i64 k)∧w.cell? ⟨b,o+1,none⟩=some (S n)∧w.cell? ⟨b,o+2,none⟩=some (.int .i64 p)∧w.cell? ⟨b,o+3,none⟩=some (.slice B us.length c)∧TreeV w t (.agg #[.int .i64 k,S n,.int .i64 p,.slice B us.length c]):=by
 obtain⟨b,o,k,n,p,us,B,c,hA,hb,ht,d0,d1,d2,d3,_,_,hT⟩:=h.at_ (i:=0) (by simp);simp only[Nat.zero_mul,Nat.add_zero] at d0 d1 d2 d3;exact⟨b,o,k,n,p,us,B,c,hA,ht,d0,d1,d2,d3,hT⟩
theorem witem_cd{Wr:Nat}{w:World}{A B:Option Addr}{c d:Nat}{ws qs:List (List UInt8)}(h:WrI Wr w A c B d ws qs)(x:Itm)(s:IS)(hk:x.kind=1\/x.kind=2)(hx:x.Sm)(hv:∀W,Below Wr w W->ItV W x s)(hl:ws.length<=1000000)(hq:qs.length<=1000000) :
  Calls Tryz.prog 27 #[.pointer (some ⟨Wr,0,none⟩),.agg (itCells x s)] w fun e w'=>e=.returned (.tuple #[])/\WrA Wr A B d w (ws++x.words1 qs) qs w':=by
 have HT:=zH (fun W hb=>(hv W hb).ty.1);have HV:=zH (fun W hb=>(hv W hb).va.1);have HTS:Hid (∀t∈x.trees,t.size<=1000000):=zH hx.trs;have HWD:Hid (x.words1 qs=[x.name]++optW 58 qs x.type++optW 61 qs x.value):=zH (by unfold Itm.words1;rw[if_neg (by omega)]);rw[HWD.o];clear hx hv HWD;have S0:=Wst.start h (itCells x s);obtain⟨wb,hwb⟩:∃wb,w.alloc (.cells (itCells x s) 42)=wb:=⟨_,rfl⟩;rw[hwb] at S0;have hlt:=h.lt;have HTY:Hid (∀t r,x.type=t :: r->t.size<=1000000):=zH fun t r e=>HTS.o t (by simp[Itm.trees,e]);have HVA:Hid (∀t r,x.value=t :: r->t.size<=1000000):=zH fun t r e=>HTS.o t (by simp[Itm.trees,e]);clear h HTS;obtain⟨kind,pos,name,type,value,⟨on,of,op⟩,som,params,blocks,fams,signs,orders,⟨lk,la,lp⟩,⟨rk,ra,rp⟩,rel,count⟩:=x;simp only at HT HV hk HTY HVA ⊢;simp only[itCells,Lfc.Ord.k,Lfc.Ord.a,Lfc.Ord.ps] at S0 hwb ⊢;have main:∀q:Bool,(kind == 1)=q->(kind == 2)=!q->Calls Tryz.prog 27 #[.pointer (some ⟨Wr,0,none⟩),.agg #[zI kind,zI (pos:Int),S name,.slice s.ty.1 type.length s.ty.2,.slice s.va.1 value.length s.va.2,S on,zI of,zI op,.slice s.so.1 som.length s.so.2,.slice s.pa.1 params.length s.pa.2,.slice s.bl.1 blocks.length s.bl.2,.slice s.fa.1 fams.length s.fa.2,.slice s.si.1 signs.length s.si.2,.slice s.od.1 orders.length s.od.2,zI lk,zI la,.slice s.le.1 lp.length s.le.2,zI rk,zI ra,.slice s.ri.1 rp.length s.ri.2,zI rel,zI count]] w fun e w'=>e=.returned (.tuple #[])/\WrA Wr A B d w (ws++([name]++optW 58 qs type++optW 61 qs value)) qs w':=by
  intro q hq1 hq2;clear hk;cases q;all_goals
   cases type
   ·cases value;all_goals
     simp only[List.length_nil,List.length_cons,optW,List.append_nil] at S0 hwb ⊢;have S0:=zH S0;have hb0:=S0.o.box;have y0:=zC hb0 0;have y2:=zC hb0 2;simp at y0 y2;have CA:=zH (wadd_new S0.o.wr [name] (by simp;omega));clear hb0;go_enter Tryz.func27,Tryz.ntmps27;go_upto_region 5 with fail;clear hwb;go_upto_region 6 with(go_at_call 50;refine CA.o.mono ?_;rintro e w1⟨rfl,hr⟩;obtain⟨A1,c1,S1⟩:=S0.o.step hr);clear hr CA y0 y2;have S1:=zH S1;have hb1:=S1.o.box;have y3:=zC hb1 3;have y4:=zC hb1 4;simp at y3 y4;clear hb1
    ·as_aux_lemma =>
     go_wp2_with fail
     go_end0
     exact⟨rfl,by simpa using S1.o.toA⟩
    as_aux_lemma =>
    have CAva:=zH (wadd_new S1.o.wr [[61]] (by simp;omega));go_upto_region 11 with(go_at_call 50;refine CAva.o.mono ?_;rintro e w2⟨rfl,hr⟩;obtain⟨A2,c2,S2⟩:=S1.o.step hr);clear hr CAva y3 y4;have S2:=zH S2;have hb2:=S2.o.box;have y3:=zC hb2 3;have y4:=zC hb2 4;simp at y3 y4;clear hb2;obtain⟨b1,o1,k1,n1,p1,us1,D1,g1,hA1,ht1,d0,d1,d2,d3,hT1⟩:=trees_head (HV.o _ S2.o.bel);rw[hA1] at y4;have CTva:=zH (wtree_any S2.o.wr _ _ hT1 (HVA.o _ _ rfl) (by simp;omega) (by omega));clear ht1 hT1;go_wp2_with (go_at_call 51;refine CTva.o.mono ?_;rintro e w3⟨rfl,hr⟩;obtain⟨A3,c3,S3⟩:=S2.o.step hr);clear hr CTva y3 y4 d0 d1 d2 d3;have S3:=zH S3;have hb3:=S3.o.box;have y3:=zC hb3 3;have y4:=zC hb3 4;simp at y3 y4;clear hb3
    go_end0
    exact⟨rfl,by simpa using S3.o.toA⟩
   cases value;all_goals
    simp only[List.length_nil,List.length_cons,optW,List.append_nil] at S0 hwb ⊢;have S0:=zH S0;have hb0:=S0.o.box;have y0:=zC hb0 0;have y2:=zC hb0 2;simp at y0 y2;have CA:=zH (wadd_new S0.o.wr [name] (by simp;omega));clear hb0;go_enter Tryz.func27,Tryz.ntmps27;go_upto_region 5 with fail;clear hwb;go_upto_region 6 with(go_at_call 50;refine CA.o.mono ?_;rintro e w1⟨rfl,hr⟩;obtain⟨A1,c1,S1⟩:=S0.o.step hr);clear hr CA y0 y2;have S1:=zH S1;have hb1:=S1.o.box;have y3:=zC hb1 3;have y4:=zC hb1 4;simp at y3 y4;clear hb1;have CAty:=zH (wadd_new S1.o.wr [[58]] (by simp;omega));go_upto_region 8 with(go_at_call 50;refine CAty.o.mono ?_;rintro e w2⟨rfl,hr⟩;obtain⟨A2,c2,S2⟩:=S1.o.step hr);clear hr CAty y3 y4;have S2:=zH S2;have hb2:=S2.o.box;have y3:=zC hb2 3;have y4:=zC hb2 4;simp at y3 y4;clear hb2;obtain⟨b1,o1,k1,n1,p1,us1,D1,g1,hA1,ht1,d0,d1,d2,d3,hT1⟩:=trees_head (HT.o _ S2.o.bel);rw[hA1] at y3;have CTty:=zH (wtree_any S2.o.wr _ _ hT1 (HTY.o _ _ rfl) (by simp;omega) (by omega));clear ht1 hT1;go_upto_region 9 with(go_at_call 51;refine CTty.o.mono ?_;rintro e w3⟨rfl,hr⟩;obtain⟨A3,c3,S3⟩:=S2.o.step hr);clear hr CTty y3 y4 d0 d1 d2 d3;have S3:=zH S3;have hb3:=S3.o.box;have y3:=zC hb3 3;have y4:=zC hb3 4;simp at y3 y4;clear hb3
   ·as_aux_lemma =>
    go_wp2_with fail
    go_end0
    exact⟨rfl,by simpa using S3.o.toA⟩
   as_aux_lemma =>
   have CAva:=zH (wadd_new S3.o.wr [[61]] (by simp;omega));go_upto_region 11 with(go_at_call 50;refine CAva.o.mono ?_;rintro e w4⟨rfl,hr⟩;obtain⟨A4,c4,S4⟩:=S3.o.step hr);clear hr CAva y3 y4;have S4:=zH S4;have hb4:=S4.o.box;have y3:=zC hb4 3;have y4:=zC hb4 4;simp at y3 y4;clear hb4;obtain⟨b3,o3,k3,n3,p3,us3,D3,g3,hA3,ht3,d0,d1,d2,d3,hT3⟩:=trees_head (HV.o _ S4.o.bel);rw[hA3] at y4;have CTva:=zH (wtree_any S4.o.wr _ _ hT3 (HVA.o _ _ rfl) (by simp;omega) (by omega));clear ht3 hT3;go_wp2_with (go_at_call 51;refine CTva.o.mono ?_;rintro e w5⟨rfl,hr⟩;obtain⟨A5,c5,S5⟩:=S4.o.step hr);clear hr CTva y3 y4 d0 d1 d2 d3;have S5:=zH S5;have hb5:=S5.o.box;have y3:=zC hb5 3;have y4:=zC hb5 4;simp at y3 y4;clear hb5
   go_end0
   exact⟨rfl,by simpa using S5.o.toA⟩
 rcases hk with rfl | rfl
 ·exact main true rfl rfl
 exact main false rfl rfl
theorem fill6(a:Act)(l0 l1 l2 l3 l4 l5:List UInt8):Instr.fill (fun i=>some (i*1,1)) (Array.map (fun x=>(S []).cells[x % (S []).cells.size]!) (Array.range (6*1))) (Array.map (fun x=>match x with | (i,x)=>(i,a.eval x)) #[(0,Operand.const (S l0)),(1,Operand.const (S l1)),(2,Operand.const (S l2)),(3,Operand.const (S l3)),(4,Operand.const (S l4)),(5,Operand.const (S l5))]).toList=some #[S l0,S l1,S l2,S l3,S l4,S l5]:=by
 simp[Instr.fill,Act.eval,Value.cells,Array.range];rfl
theorem WrI.pushq{Wr:Nat}{w w2:World}{A B B2:Option Addr}{c d d2:Nat}{ws qs:List (List UInt8)}{n:List UInt8}(h:WrI Wr w A c B d ws qs)(hown:w2.ownsRow (Wr+1) 9 1 (.slice B2 (qs.length+1) d2) (qs.length+1) (qs.map S++[S n]))(hg:w.grownBy w2 (Value.slice B qs.length d).ownBlock)
  (hat:(Value.slice B2 (qs.length+1) d2).ownBlock=(Value.slice B qs.length d).ownBlock∨(Value.slice B2 (qs.length+1) d2).ownBlock=some w.heap.size) :
  w2.heap[Wr]?=some (.cells #[.slice A ws.length c,.slice B qs.length d] 81 (0,0))∧WrR Wr A B w ws (qs++[n]) (w2.setCell ⟨Wr,1,none⟩ (.slice B2 (qs.length+1) d2)):=by
 have hs:=hg.size;have hl:=h.lt;obtain⟨tA,tB⟩:=h.own_type;have hBne:(Value.slice B qs.length d).ownBlock≠some Wr:=fun e=>by have:=(h.qwn.lt _ e).1;omega
 have q1:w2.heap[Wr]?=some (.cells #[.slice A ws.length c,.slice B qs.length d] 81 (0,0)):=(hg.block Wr hl (fun e=>hBne e.symm)).trans h.blk;have o4:Oth Wr w2 (w2.setCell ⟨Wr,1,none⟩ (.slice B2 (qs.length+1) d2)):=Oth.set _ _;have hB2:∀a,B2=some a→a.block≠Wr∧(some a.block=(Value.slice B qs.length d).ownBlock∨a.block=w.heap.size):=fun a ha=>by
  subst ha;refine⟨fun e=>by have:=(hown.lt a.block rfl).1;omega,?_⟩;rcases hat with e | e
  ·exact .inl e
  exact .inr (zO e)
 have hBo:∀b,some b=(Value.slice B qs.length d).ownBlock→∃a,B=some a∧a.block=b:=fun b hb=>by
  rcases B with _ | a
  ·cases hb
  exact⟨a,rfl,(zO hb).symm⟩
 refine⟨q1,A,c,B2,d2,⟨?_,?_,?_,?_⟩,?_⟩
 ·simp[World.setCell,zM,q1]
 ·have q:=h.own.kept hg (by
   rcases A with _ | a'
   ·exact .inl rfl
   refine .inr fun e=>?_;obtain⟨a,ha,hb⟩:=hBo a'.block e;exact h.dis a' a rfl ha hb.symm)
  exact q.kept o4 (Or.inr (fun e=>by have:=(q.lt _ e).1;omega))
 ·have:=hown.kept o4 (Or.inr (fun e=>by have:=(hown.lt _ e).1;omega));simpa using this
 ·intro a a' ha ha';rcases(hB2 a' ha').2 with e | e
  ·obtain⟨a0,h0,h1⟩:=hBo _ e;rw[←h1];exact h.dis a a0 ha h0
  obtain⟨_,cs,hc⟩:=tA a ha;have:=zL hc;omega
 refine⟨o4.os.trans hg.os,o4.tape.trans hg.tape,o4.output.trans hg.output,zR hs o4.size,fun b hb he=>?_,fun b hb he=>?_⟩
 ·rw[o4.block b (by omega) (fun e=>he (.inl (zO e))),hg.block b hb (fun e=>by
   obtain⟨a,ha,hab⟩:=hBo b e;exact he (.inr (.inr ⟨a,ha,hab⟩)))]
 rintro (rfl | ⟨a,ha,rfl⟩ | ⟨a,ha,rfl⟩)
 ·exact he (.inl rfl)
 ·exact he (.inr (.inl ⟨a,ha,rfl⟩))
 rcases(hB2 a ha).2 with e | e
 ·obtain⟨a0,h0,h1⟩:=hBo _ e;exact he (.inr (.inr ⟨a0,h0,h1⟩))
 omega
end Go.Proofs.YthajalgkjonaaaaGreatDoor
namespace Lfc
def joinW(ws:List (List UInt8)):List UInt8:=[32].intercalate ws
def bndsW(q:List (List UInt8))(l:List Bnd):List (List UInt8):=l.flatMap fun b=>[[123],b.1,[58],b.2.fmt q,[125]]
mutual
def Ord.words:Ord→List (List UInt8)
 |.node k a ps=>if k=1 then [dec a.toNat] else(if k=3 then [91] else [123]) :: (Ord.wordss ps++[if k=3 then [93] else [125]])
def Ord.wordss:List Ord→List (List UInt8)
 |[]=>[]
 |a :: r=>Ord.words a++Ord.wordss r
end
def fordsW(l:List (List UInt8 × Ord)):List (List UInt8):=l.flatMap fun x=>x.1 :: x.2.words
def barsW:List (List UInt8)→List (List UInt8)
 |[]=>[]
 |[b]=>[b]
 |b :: r=>b :: [124] :: barsW r
def signW(i:Int):List UInt8:=if i=1 then [43] else if i=2 then [45] else [42]
def relW(i:Int):List UInt8:=if i=1 then [60] else if i=2 then [60,61] else [61]
def Itm.words(q:List (List UInt8))(x:Itm):List (List UInt8) :=
 if x.kind=1∨x.kind=2∨x.kind=3 then x.words1 q
 else if x.kind=4 then [[37,98,108,111,99,107],x.name,[58]]++(if x.som.length=0 then [] else [115,111,109,101] :: bndsW q x.som)++[98,108,111,99,107] :: bndsW q x.params
 else if x.kind=5 then [[37,119,111,114,108,100,115],[40]]++barsW x.blocks++[41] :: x.fams
 else if x.kind=6 then [[37,109,111,100,101],x.name]++x.signs.map signW
 else if x.kind=7 then [[37,99,111,118,101,114,115],x.name]
 else if x.kind=8 then [[37,117,110,105,113,117,101],x.name]
 else if x.kind=9 then [[37,115,116,114,105,99,116],x.name]
 else if x.kind=10 then [37,116,101,114,109,105,110,97,116,101,115] :: fordsW x.orders
 else if x.kind=11 then [37,116,111,116,97,108] :: fordsW x.orders
 else if x.kind=12 then [[37,114,101,100,117,99,101,115],x.name]++x.left.words++[relW x.rel]++x.right.words
 else [37,113,117,101,114,121] :: dec x.count.toNat :: optW2 q x.type
where optW2 (q:List (List UInt8)):List Raw→List (List UInt8)
 |[]=>[]
 |t :: _=>[t.fmt q]
def Itm.quo(q:List (List UInt8))(x:Itm):List (List UInt8):=if x.kind=3 then q++[x.op.name] else q
def fmtIts(q:List (List UInt8)):List Itm→List UInt8
 |[]=>[]
 |x :: r=>joinW (x.words q)++[32,46,10]++fmtIts (x.quo q) r
def formatP(l:List Itm):List UInt8:=if wfItems l=0 then fmtIts [] l else []
end Lfc
namespace Go.Proofs.YthajalgkjonaaaaGreatDoor
open Go.RowKit _root_.Lfc
theorem WrI.clear{Wr:Nat}{w:World}{A B:Option Addr}{c d:Nat}{ws qs:List (List UInt8)}(h:WrI Wr w A c B d ws qs):WrI Wr (w.setCell ⟨Wr,0,none⟩ (.slice none 0 0)) none 0 B d [] qs∧Kp (WE Wr A B) (WE Wr none B) w (w.setCell ⟨Wr,0,none⟩ (.slice none 0 0)):=by
 have o4:Oth Wr w (w.setCell ⟨Wr,0,none⟩ (.slice none 0 0)):=Oth.set _ _;refine⟨⟨by simp[World.setCell,zM,h.blk],own_nil _ _ _ _,h.qwn.kept o4 (Or.inr (fun e=>by have:=(h.qwn.lt _ e).1;omega)),fun a a' ha=>by cases ha⟩,o4.os,o4.tape,o4.output,o4.size,fun b hb he=>o4.block b hb (fun e=>he (.inl (zO e))),fun b hb he=>?_⟩;rintro (rfl | ⟨a,ha,rfl⟩ | ⟨a,ha,rfl⟩)
 ·exact he (.inl rfl)
 ·cases ha
 exact he (.inr (.inr ⟨a,ha,rfl⟩))
theorem WrI.kept{Wr b:Nat}{w w':World}{A B:Option Addr}{c d:Nat}{ws qs:List (List UInt8)}(h:WrI Wr w A c B d ws qs)(hk:Kept b w w')(hb:b<Wr)(hs:w.heap.size≤w'.heap.size):WrI Wr w' A c B d ws qs:=by
 obtain⟨tA,tB⟩:=h.own_type;have main:∀(X:Option Addr)(n x:Nat)(xs:List Value),w.ownsRow (Wr+1) 9 1 (.slice X n x) n xs→w'.ownsRow (Wr+1) 9 1 (.slice X n x) n xs:=by
  intro X n x xs hown;refine⟨hown.1,?_⟩;rcases hown.2 with e | ⟨g,cap,cur,e,hbg,hg,r⟩
  ·exact .inl e
  exact .inr ⟨g,cap,cur,e,hbg,hk.cells hg (by omega) (by decide),r⟩
 exact⟨hk.cells h.blk (by omega) (by decide),main _ _ _ _ h.own,main _ _ _ _ h.qwn,h.dis⟩
theorem WrI.words{Wr:Nat}{w:World}{A B:Option Addr}{c d:Nat}{ws qs:List (List UInt8)}(h:WrI Wr w A c B d ws qs)(hne:ws≠[]):∃g,A=some ⟨g,0,none⟩∧g<w.heap.size∧ws.length≤c∧∀j x,(ws.map fun l=>(⟨l.toArray⟩:ByteArray))[j]?=some x→w.cell? ⟨g,0+j,none⟩=some (.string x):=by
 rcases h.own.2 with⟨_,h0⟩ | ⟨g,cap,cur,hv,hbg,hg,hnc,_⟩
 ·exact absurd (Zz h0) hne
 have hv':=hv;injection hv' with e1 _ e3;subst e1 e3;refine⟨g,rfl,zL hg,hnc,fun j x hj=>?_⟩;rw[List.getElem?_map,Option.map_eq_some_iff] at hj;obtain⟨s,hs,rfl⟩:=hj;have:=h.own.cells (g:=g) rfl j (S s) (by simp[hs]);rw[show(⟨g,0,none⟩:Addr).add j=⟨g,0+j,none⟩ by unfold Addr.add;split <;> simp_all] at this;exact this
theorem join_map(ws:List (List UInt8)):Lib.join ((ws.map fun l=>(⟨l.toArray⟩:ByteArray)).map (·.data.toList)) [32]=joinW ws:=by
 have:((ws.map fun l=>(⟨l.toArray⟩:ByteArray)).map (·.data.toList))=ws:=by
  induction ws with
  |nil=>rfl
  |cons a r ih=>rw[List.map_cons,List.map_cons,ih]
 rw[this];rfl
theorem joinW_len(ws:List (List UInt8)):ws.length≤(joinW ws).length+1:=by
 cases ws with
 |nil=>simp
 |cons x r =>
  have h2:r.length≤(Lib.joinTail [32] r).length:=by
   unfold Lib.joinTail;induction r with
   |nil=>simp
   |cons a r ih=>simp only[List.map_cons,List.flatten_cons,Zq,List.length_cons,List.length_nil] at ih ⊢;omega
  rw[show joinW (x :: r)=x++Lib.joinTail [32] r from Lib.join_cons x r [32],Zq,List.length_cons];omega
def ItemC(R:World→Prop)(y:Itm × IS):Prop:=∀(Wr:Nat)(w:World)(A B:Option Addr)(c d:Nat)(ws qs:List (List UInt8)),WrI Wr w A c B d ws qs→(∀W,Below Wr w W→ItV W y.1 y.2∧R W)→ws.length≤1000000→qs.length≤1000000 →
 Calls Tryz.prog 27 #[.pointer (some ⟨Wr,0,none⟩),.agg (itCells y.1 y.2)] w fun e w'=>e=.returned (.tuple #[])∧WrR Wr A B w (ws++y.1.words qs) (y.1.quo qs) w'
theorem format_of(RW:World->Prop)(l:List (Itm × IS))(A:Option Addr)(c:Nat)(w:World)(hA:ItsV w A l)(hR:∀W,zb w W->RW W)(hJ:∀y∈l,∀q,(joinW (y.1.words q)).length<=100000000000/\y.1.words q≠[])
  (hWF:Calls Tryz.prog 26 #[.slice A l.length c] w fun e w'=>e=.returned (zI (wfItems (l.map Prod.fst)))/\zb w w')
  (hI:∀y∈l,wfItems (l.map Prod.fst)=0->ItemC RW y) :
  Calls Tryz.prog 10 #[.slice A l.length c] w fun e w'=>e=.returned (S (formatP (l.map Prod.fst)))/\zb w w':=by
 have HA:=zH hA;have HRR:=zH hR;clear hR;have HJ:=zH hJ;have HWF:=zH hWF;have HI:=zH hI;have h512:Hid (wfItems (l.map Prod.fst)=0->l.length<=512):=zH fun h=>by
  unfold wfItems at h;split at h
  ·cases h
  rename_i h2;rw[List.length_map] at h2;omega
 clear hA hJ hWF hI;by_cases hz:wfItems (l.map Prod.fst)=0
 rotate_left
 ·have HR:Hid (formatP (l.map Prod.fst)=[]):=zH (by unfold formatP;rw[if_neg hz]);rw[HR.o];have hz2:(wfItems (l.map Prod.fst) != 0)=true:=by simpa using hz
  generalize wfItems (l.map Prod.fst)=f at *;clear hz HR HI;go_enter Tryz.func10,Tryz.ntmps10;go_wp2_with (go_at_call 26;refine HWF.o.mono ?_;rintro e w2⟨rfl,b2⟩);go_ret;exact⟨rfl,b2⟩
 have hl:=h512.o hz;obtain⟨R,hR⟩:∃R,formatP (l.map Prod.fst)=R:=⟨_,rfl⟩;have HR:Hid (fmtIts [] (l.map Prod.fst)=R):=zH (by rw[<-hR];unfold formatP;rw[if_pos hz]);rw[hR];have HI2:=zH (fun y hy=>HI.o y hy hz);rw[hz] at HWF;clear hR hz HI h512;go_enter Tryz.func10,Tryz.ntmps10;go_upto_region 3 with(go_at_call 26;refine HWF.o.mono ?_;rintro e w2⟨rfl,b2⟩);obtain⟨w3,hw3⟩:∃w3,w2.alloc (.cells #[.pointer none,zS] 78)=w3:=⟨_,rfl⟩;have bd3:=bld_new w2;rw[hw3] at bd3;have b3:=zG hw3;have hs3:=eq2 (show w3.heap.size=w2.heap.size+1 by rw[<-hw3];simp);go_upto_region 4 with fail;clear hw3;obtain⟨w4,hw4⟩:∃w4,w3.alloc (.cells #[zS,zS] 81)=w4:=⟨_,rfl⟩;have b4:=zG hw4;have q4:=zQ hw4;go_upto_region 5 with fail;clear hw4;have W4:Hid (WrI w3.heap.size w4 none 0 none 0 [] []):=zH ⟨q4,own_nil _ _ _ _,own_nil _ _ _ _,fun a a' h=>by cases h⟩;have bd4:Bld w2.heap.size w2.heap.size [] w4:=bd3.keep fun k cc t f hk _=>b4.block k (zL hk);have BD4:=zH bd4;have B4:=zH (b2.trans ((b3.trans (b4.mono (by omega))).mono b2.size));have hs2:=b2.size;have hlow:Hid (w.heap.size<=w2.heap.size/\w2.heap.size<w3.heap.size):=zH ⟨hs2,by omega⟩;clear bd3 b3 q4 bd4 b2 b4 hs3 hs2;generalize w2.heap.size=bb at *;generalize w3.heap.size=Wr at *;go_wp2_with fail;go_loopw [14] (fun i wr=>∃(k:Nat)(acc:List UInt8)(A' B':Option Addr)(c' d':Nat)(ws qs:List (List UInt8)),k<=l.length/\i=zI k/\qs.length<=k/\acc.length<=k*100000000003/\Hid (Bld bb bb acc wr)/\Hid (WrI Wr wr A' c' B' d' ws qs)/\Hid (acc++fmtIts qs ((l.drop k).map Prod.fst)=R)/\Hid (Below bb w wr->True)/\Hid (zb w wr)) (fun i _=>l.length-(intOf i).toNat);case atStart=>exact⟨0,[],none,none,0,0,[],[],by omega,rfl,by simp,by simp,BD4,W4,zH (by simpa using HR.o),zH fun _=>trivial,B4⟩
 clear HR BD4 W4 B4;obtain⟨k,acc,A',B',c',d',ws,qs,hk,rfl,hql,hal,HB,HW,HM,_,HL⟩:=hrel;have hsz:=HW.o.lt;by_cases hlt:k<l.length
 ·have hlt2:decide ((k:Int)<(l.length:Int))=true:=by simpa using hlt
  have hmem:=Ze hlt;obtain⟨b,o,rfl,hb,hc,hi⟩:=HA.o (by intro e;rw[e] at hlt;simp at hlt);have hcell:∀j u,(itCells l[k].1 l[k].2)[j]?=some u->zc wr b (o+k*22+j) u:=fun j u hj=>by
   have hj22:j<22:=(Array.getElem?_eq_some_iff.1 hj).1;have h1:=hc (k*22+j) u (by rw[itRow_at l k hlt j hj22];exact hj);rw[<-Nat.add_assoc] at h1;exact(HL.o.cell (p:=⟨b,_,none⟩) hb).trans h1
  have hld:=it_loadC hcell rfl;have hone:=itCells_one l[k].1 l[k].2;have HIT:Hid (∀W,Below w.heap.size wr W->ItV W l[k].1 l[k].2/\RW W):=zH fun W hW=>⟨(hi _ hmem).below (HL.o.trans hW),HRR.o W (HL.o.trans hW)⟩;have HI1:=zH (HI2.o _ hmem);have HJ1:=zH (HJ.o _ hmem);have hm:=HM.o;rw[List.drop_eq_getElem_cons hlt,List.map_cons,fmtIts] at hm;clear hc hi hmem hcell;generalize hy:l[k]=y at *;clear hy;obtain⟨x,s⟩:=y;simp only at hld hone HIT HJ1 hm;have HJ2:=zH (HJ1.o qs);have HQ:Hid ((x.quo qs).length<=qs.length+1):=zH (by unfold Itm.quo;split <;> simp);generalize hxw:x.words qs=xw at *;generalize hxq:x.quo qs=xq at *;have HIC:Hid (∀(w:World)(A B:Option Addr)(c d:Nat),WrI Wr w A c B d [] qs->(∀W,Below Wr w W->ItV W x s/\RW W)->Calls Tryz.prog 27 #[.pointer (some ⟨Wr,0,none⟩),.agg (itCells x s)] w fun e w'=>e=.returned (.tuple #[])/\WrR Wr A B w xw xq w'):=zH fun W A B c d h1 h2=>by
   have:=HI1.o Wr W A B c d [] qs h1 h2 (by simp) (by omega);simp only[List.nil_append] at this;rw[hxw,hxq] at this;exact this
  obtain⟨kind,pos,name,type,value,⟨on,of,op⟩,som,params,blocks,fams,signs,orders,⟨lk,la,lp⟩,⟨rk,ra,rp⟩,rel,count⟩:=x;simp only[itCells,Lfc.Ord.k,Lfc.Ord.a,Lfc.Ord.ps] at hld hone HIC;have HON:=zH hone;have HM:=zH hm;obtain⟨w5,hw5⟩:∃w5,wr.alloc (.cells #[zI kind,zI (pos:Int),S name,.slice s.ty.1 type.length s.ty.2,.slice s.va.1 value.length s.va.2,S on,zI of,zI op,.slice s.so.1 som.length s.so.2,.slice s.pa.1 params.length s.pa.2,.slice s.bl.1 blocks.length s.bl.2,.slice s.fa.1 fams.length s.fa.2,.slice s.si.1 signs.length s.si.2,.slice s.od.1 orders.length s.od.2,zI lk,zI la,.slice s.le.1 lp.length s.le.2,zI rk,zI ra,.slice s.ri.1 rp.length s.ri.2,zI rel,zI count] 42)=w5:=⟨_,rfl⟩;have b5:=zG hw5;have q5:=zQ hw5;have hi0:=zP k;have hi1:(k:Int)<(l.length:Int):=by omega
  have hW5:=HW.o.below b5;obtain⟨hW6,hK6⟩:=hW5.clear;have x0:=zC hW5.blk 0;have f0:=zF hW5.blk 0;simp at x0;obtain⟨w6,hw6⟩:∃w6,w5.setCell ⟨Wr,0,none⟩ zS=w6:=⟨_,rfl⟩;rw[hw6] at hW6 hK6;have q6:=(hK6.keep _ (zL q5) (hW5.not_E q5 (by decide) (by decide))).trans q5;have bd5:Bld bb bb acc w5:=HB.o.keep fun kk cc t f hk _=>b5.block kk (zL hk);have bd6:Bld bb bb acc w6:=bd5.keep fun kk cc t f hk ht=>hK6.keep kk (zL hk) (hW5.not_E hk (by rcases ht with rfl | rfl <;> decide) (by rcases ht with rfl | rfl <;> decide));have L6:Below w.heap.size wr w6:=(b5.mono (by have:=HL.o.size;omega)).trans (hK6.below_of hW5 (by have:=hlow.o;omega));have HQ6:=zH q6;have HB6:=zH bd6;have HL6:=zH L6;have HW6:=zH hW6;have CI:=zH (HIC.o w6 none B' 0 d' hW6 (fun W hW=>HIT.o W (L6.trans (hW.mono (by have:=hlow.o;omega)))));clear hm hone q5 hW5 hW6 hK6 q6 bd5 bd6 L6 HIC hxw hxq HIT HI1 HB HW b5;go_upto_region 7 with fail;go_upto_region 8 with(first | (refine wpList_it (by rfl) (by rfl) (by rfl) hld ?_) | (refine wpList_it_new (by rfl) (by rfl) (by rfl) (by rfl) (by rfl) (by rfl) HON.o ?_;rw[hw5]));clear hld hw5;go_upto_region 9 with fail;clear hw6 x0 f0;have hld:=it_load HQ6.o rfl;go_upto_region 10 with(first | (refine wpList_it (by rfl) (by rfl) (by rfl) hld ?_) | (go_at_call 27;refine CI.o.mono ?_;rintro e w7⟨rfl,A7,c7,B7,d7,hW7,hK7⟩));clear hld;obtain⟨g7,rfl,hg7,hgc7,hcell7⟩:=hW7.words HJ2.o.2;have x7:=zC hW7.blk 0;simp at x7;have bd7:Bld bb bb acc w7:=HB6.o.keep fun kk cc t f hk ht=>hK7.keep kk (zL hk) (HW6.o.not_E hk (by rcases ht with rfl | rfl <;> decide) (by rcases ht with rfl | rfl <;> decide));have HL7:=zH (HL6.o.trans (hK7.below_of HW6.o (by have:=hlow.o;omega)));have hjl:=HJ2.o.1;have CJ:=zH (Tryz.strings_Join g7 0 c7 (xw.map fun l=>(⟨l.toArray⟩:ByteArray)) ⟨#[32]⟩ w7 hcell7 hg7 (by rw[List.length_map];have:=joinW_len xw;omega) (by rw[List.length_map];exact hgc7) (by rw[show(⟨#[32]⟩:ByteArray).data.toList=[32] from rfl,join_map xw];omega));rw[List.length_map] at CJ;have hjm:=join_map xw;rw[show(⟨#[32]⟩:ByteArray).data.toList=[32] from rfl,hjm] at CJ;clear hjm hcell7;have HW7:=zH hW7;have HB7:=zH bd7;generalize joinW xw=J at *;have hcat:(⟨J.toArray⟩:ByteArray) ++ ⟨#[32,46,10]⟩=⟨(J++[32,46,10]).toArray⟩:=bcat J [32,46,10];have hsz1:(⟨J.toArray⟩:ByteArray).size=J.length:=bsize J;have hJl:(J++[32,46,10]).length=J.length+3:=by simp
  have hbw7:=HL7.o.size;have CW:=zH (fun W (hb:zb w7 W)=>writeString_any bb bb acc (J++[32,46,10]) W (HB7.o.keep fun kk cc t f hk _=>hb.block kk (zL hk)) (by rw[hJl];omega) (by have:=hb.size;have:=hlow.o;have:=HL.o.size;omega));rw[hJl] at CW;have HJl:=zH hJl;have HJ9:=zH hjl;have hnl:¬ 9223372036854775807<J.length+3:=by omega
  have hbw9:w.heap.size<=w7.heap.size:=zR HL.o.size hbw7;clear hW7 hK7 bd7 hjl hJl;go_wp2_with (first | (go_at_call 29;refine CJ.o.mono ?_;rintro e w8⟨rfl,b8⟩;have z8:=(b8.cell (p:=⟨Wr,0,none⟩) (HW7.o.lt)).trans x7) | (go_at_call 28;refine(CW.o _ b8).mono ?_;rintro e w9⟨rfl,bd9,b9,k9⟩));have hr9:WrI Wr w9 (some ⟨g7,0,none⟩) c7 B7 d7 xw xq:=(HW7.o.below b8).kept k9 hlow.o.2 b9.size;have L9:zb w w9:=HL.o.trans (HL7.o.trans ((b8.mono hbw9).trans (b9.mono hlow.o.1)));have HN:=zH (show(acc++(J++[32,46,10]))++fmtIts xq ((l.drop (k+1)).map Prod.fst)=R by have:=HM.o;simpa[List.append_assoc] using this);have HB9:=zH bd9;have HW9:=zH hr9;have HL9:=zH L9;have hq1:=HQ.o;have hal9:(acc++(J++[32,46,10])).length<=(k+1)*100000000003:=by rw[Zq,HJl.o];have:=HJ9.o;omega
  clear bd9 b9 k9 b8 hr9 L9 HM;go_roundw;case rel=>exact⟨k+1,acc++(J++[32,46,10]),some ⟨g7,0,none⟩,B7,c7,d7,xw,xq,by omega,by go_num,by omega,hal9,HB9,HW9,HN,zH fun _=>trivial,HL9⟩
  case measure=>simp[intOf];omega
 have HZ:Hid (acc=R):=zH (by have:=HM.o;rw[List.drop_of_length_le (by omega)] at this;simpa[fmtIts] using this);have hlt2:decide ((k:Int)<(l.length:Int))=false:=by simpa using hlt
 have CS:=zH (string_any bb bb acc wr HB.o (by have:=HL.o.size;have:=hlow.o;omega));go_wp2_with (go_at_call 30;refine CS.o.mono ?_;rintro e w9⟨rfl,bd9,b9,k9⟩);go_ret;have e9:(Ending.returned (S acc))=.returned (S R):=by rw[HZ.o]
 exact⟨e9,HL.o.trans (b9.mono hlow.o.1)⟩
end Go.Proofs.YthajalgkjonaaaaGreatDoor
