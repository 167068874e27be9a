/- Parts of the proof that no input makes the law false: PaItm, PaMb, PaFmd, PaFn. -/
import Derived.Laws.StructEq
import Derived.Deep.MidRow
import Derived.Test.YthajalgkjonaaaaGreatDoorBxAL
set_option linter.unusedVariables false
set_option linter.unusedSimpArgs false
set_option maxRecDepth 100000
set_option maxHeartbeats 32000000
namespace Go.Proofs.YthajalgkjonaaaaGreatDoor
open Go.RowKit _root_.Lfc
def Stays(q:Nat→Prop)(w:World)(F:World→Prop):Prop:=∀w',w.heap.size≤w'.heap.size→(∀b,q b→b<w.heap.size→w'.heap[b]?=w.heap[b]?)→F w'
theorem Stays.here{q:Nat→Prop}{w:World}{F:World→Prop}(h:Stays q w F):F w:=h w (zN _) fun _ _ _=>rfl
theorem Stays.to{q q':Nat→Prop}{w w':World}{F:World→Prop}(h:Stays q w F)(hs:w.heap.size≤w'.heap.size)(hk:∀b,q b→b<w.heap.size→w'.heap[b]?=w.heap[b]?)(hq:∀b,b<w.heap.size→q b→q' b):Stays q' w' F:=fun w2 h1 h2 =>
 h w2 (zR hs h1) fun b hb hlt=>(h2 b (hq b hlt hb) (Zl hlt hs)).trans (hk b hb hlt)
theorem Stays.imp{q:Nat→Prop}{w:World}{F F':World→Prop}(h:Stays q w F)(hi:∀W,F W→F' W):Stays q w F':=fun w' h1 h2=>hi _ (h w' h1 h2)
theorem Stays.and{q:Nat→Prop}{w:World}{F F':World→Prop}(h:Stays q w F)(h':Stays q w F'):Stays q w fun W=>F W∧F' W:=fun w' h1 h2=>⟨h w' h1 h2,h' w' h1 h2⟩
theorem Stays.all{q:Nat→Prop}{w:World}{F:World→Prop}(h:∀W,F W):Stays q w F:=fun w' _ _=>h w'
theorem Stays.oth2{lo P I:Nat}{w w':World}{F:World→Prop}(h:Stays (fun b=>lo≤b) w F)(o:Oth2 P I w w')(hP:P<lo)(hI:I<lo):Stays (fun b=>lo≤b) w' F :=
 h.to o.size (fun b hb hlt=>o.block b hlt (by omega) (by omega)) fun _ _ h=>h
def StrsAt(w:World)(A:Option Addr)(l:List (List UInt8)):Prop:=l≠[]→∃b o,A=some ⟨b,o,none⟩∧b<w.heap.size∧∀i(h:i<l.length),w.cell? ⟨b,o+i,none⟩=some (S l[i])
def NumsAt(w:World)(A:Option Addr)(l:List Int):Prop:=l≠[]→∃b o,A=some ⟨b,o,none⟩∧b<w.heap.size∧∀i(h:i<l.length),w.cell? ⟨b,o+i,none⟩=some (.int .i64 l[i])
def BndC(w:World)(b o:Nat)(x:Bnd):Prop:=∃v0 v1 v2 v3,w.cell? ⟨b,o,none⟩=some (S x.1)∧x.1.length≤1000000∧w.cell? ⟨b,o+1,none⟩=some v0∧w.cell? ⟨b,o+2,none⟩=some v1∧w.cell? ⟨b,o+3,none⟩=some v2∧w.cell? ⟨b,o+4,none⟩=some v3∧TreeC w x.2 v0 v1 v2 v3
def BndsAt(w:World)(A:Option Addr)(l:List Bnd):Prop:=l≠[]→∃b o,A=some ⟨b,o,none⟩∧b<w.heap.size∧∀i(h:i<l.length),BndC w b (o+i*5) l[i]
def FOrdC(w:World)(b o:Nat)(x:List UInt8 × Lfc.Ord):Prop:=∃v0 v1 v2,w.cell? ⟨b,o,none⟩=some (S x.1)∧x.1.length≤1000000∧w.cell? ⟨b,o+1,none⟩=some v0∧w.cell? ⟨b,o+2,none⟩=some v1∧w.cell? ⟨b,o+3,none⟩=some v2∧OrdC w x.2 v0 v1 v2
def FOrdsAt(w:World)(A:Option Addr)(l:List (List UInt8 × Lfc.Ord)):Prop:=l≠[]→∃b o,A=some ⟨b,o,none⟩∧b<w.heap.size∧∀i(h:i<l.length),FOrdC w b (o+i*4) l[i]
end Go.Proofs.YthajalgkjonaaaaGreatDoor
namespace Lfc
def Ord.k:Ord→Int
 |.node k _ _=>k
def Ord.a:Ord→Int
 |.node _ a _=>a
def Ord.ps:Ord→List Ord
 |.node _ _ ps=>ps
end Lfc
namespace Go.Proofs.YthajalgkjonaaaaGreatDoor
open Go.RowKit _root_.Lfc
structure IS where
 ty:Option Addr × Nat
 va:Option Addr × Nat
 so:Option Addr × Nat
 pa:Option Addr × Nat
 bl:Option Addr × Nat
 fa:Option Addr × Nat
 si:Option Addr × Nat
 od:Option Addr × Nat
 le:Option Addr × Nat
 ri:Option Addr × Nat
def IS.nil:IS:=⟨(none,0),(none,0),(none,0),(none,0),(none,0),(none,0),(none,0),(none,0),(none,0),(none,0)⟩
def itCells(x:Itm)(s:IS):Array Value:=#[.int .i64 x.kind,.int .i64 (x.pos:Int),S x.name,.slice s.ty.1 x.type.length s.ty.2,.slice s.va.1 x.value.length s.va.2,S x.op.name,.int .i64 x.op.fix,.int .i64 x.op.prec,
 .slice s.so.1 x.som.length s.so.2,.slice s.pa.1 x.params.length s.pa.2,.slice s.bl.1 x.blocks.length s.bl.2,.slice s.fa.1 x.fams.length s.fa.2,.slice s.si.1 x.signs.length s.si.2,.slice s.od.1 x.orders.length s.od.2,
 .int .i64 x.left.k,.int .i64 x.left.a,.slice s.le.1 x.left.ps.length s.le.2,.int .i64 x.right.k,.int .i64 x.right.a,.slice s.ri.1 x.right.ps.length s.ri.2,.int .i64 x.rel,.int .i64 x.count]
structure ItV(w:World)(x:Itm)(s:IS):Prop where
 name:x.name.length≤1000000
 opn:x.op.name.length≤1000000
 ty:TreesAt w s.ty.1 x.type∧x.type.length≤s.ty.2
 va:TreesAt w s.va.1 x.value∧x.value.length≤s.va.2
 so:BndsAt w s.so.1 x.som∧x.som.length≤s.so.2
 pa:BndsAt w s.pa.1 x.params∧x.params.length≤s.pa.2
 bl:StrsAt w s.bl.1 x.blocks∧x.blocks.length≤s.bl.2
 fa:StrsAt w s.fa.1 x.fams∧x.fams.length≤s.fa.2
 si:NumsAt w s.si.1 x.signs∧x.signs.length≤s.si.2
 od:FOrdsAt w s.od.1 x.orders∧x.orders.length≤s.od.2
 le:OrdsAt w s.le.1 x.left.ps∧x.left.ps.length≤s.le.2
 ri:OrdsAt w s.ri.1 x.right.ps∧x.right.ps.length≤s.ri.2
theorem ItV.nil(w:World)(a:Nat):ItV w (Itm.new a) IS.nil:=by
 have h0:∀{α:Type}{P:Prop},((([]:List α)≠[])→P):=fun h=>absurd rfl h;refine⟨?_,?_,⟨?_,?_⟩,⟨?_,?_⟩,⟨?_,?_⟩,⟨?_,?_⟩,⟨?_,?_⟩,⟨?_,?_⟩,⟨?_,?_⟩,⟨?_,?_⟩,⟨?_,?_⟩,⟨?_,?_⟩⟩ <;> first | exact h0 | exact Nat.zero_le _
def ItB(w:World)(I lo:Nat)(x:Itm):Prop:=∃s,w.heap[I]?=some (.cells (itCells x s) 42 (0,0))∧Stays (fun b=>lo≤b) w fun W=>ItV W x s
def Hd.off(G:Hd)(p:Lfc.PE)(J:Nat):Prop:=(p.toks≠[]→∀a,G.A=some a→a.block≠J)∧(p.ops≠[]→∀a,G.B=some a→a.block≠J)
theorem Hd.from.off{G:Hd}{lo J:Nat}{p:Lfc.PE}(h:G.from lo)(hJ:J<lo):G.off p J:=⟨fun _ a e=>by have:=h.1 a e;omega,fun _ a e=>by have:=h.2 a e;omega⟩
theorem PW.off_new{w:World}{P k J:Nat}{G:Hd}{p:Lfc.PE}(h:PW w P G p k)(hJ:w.heap.size≤J):G.off p J:=by
 obtain⟨_,⟨A,c,e,h1,h2⟩,h3⟩:=h;obtain⟨A',c',B',d'⟩:=G;simp only at e h3;cases e;refine⟨fun hne a e=>?_,fun hne a e=>?_⟩
 ·obtain⟨b,o,hA,hlt,_⟩:=h2 (List.length_pos_iff.2 hne);rw[hA] at e;cases e;simp only;omega
 obtain⟨b,o,hA,hlt,_⟩:=h3.2 hne;rw[hA] at e;cases e;simp only;omega
theorem PW.to3{w w':World}{P J k:Nat}{G:Hd}{p:Lfc.PE}(h:PW w P G p k)(hJ:G.off p J){k':Nat}(ho:Oth2 P J w w')(hc:w'.heap[P]?=some (.cells #[.slice G.A p.toks.length G.c,.int .i64 (k':Int),.int .i64 (p.fin:Int),.slice G.B p.ops.length G.d] 96 (0,0))):PW w' P G p k':=by
 have hn:=h.noStr;obtain⟨_,⟨A,c,e,h1,h2⟩,hp,h3⟩:=h;obtain⟨A',c',B',d'⟩:=G;simp only at e h2 h3;cases e;refine⟨hc,⟨_,_,rfl,h1,fun hp=>?_⟩,hp,fun hne=>?_⟩
 ·obtain⟨b,o,hA,hlt,hcl⟩:=h2 hp;have hbX:b≠J:=hJ.1 (List.length_pos_iff.1 hp) _ hA;have hbP:b≠P:=fun e=>by
   obtain⟨_,c1,_⟩:=hcl 0 _ (Zg hp);rw[e] at c1;exact hn _ _ c1
  have q:=fun j=>World.cell?_of_block (a:=⟨b,j,none⟩) (ho.block b hlt hbP hbX);refine⟨b,o,hA,Zl hlt ho.size,fun i t ht=>?_⟩;obtain⟨c0,c1,c2⟩:=hcl i t ht;exact⟨(q _).trans c0,(q _).trans c1,(q _).trans c2⟩
 obtain⟨b,o,hA,hlt,hcl⟩:=h3 hne;have hbX:b≠J:=hJ.2 hne _ hA;have hbP:b≠P:=fun e=>by
  obtain⟨c0,_⟩:=hcl 0 (List.length_pos_iff.2 hne);rw[e] at c0;exact hn _ _ c0
 have q:=fun j=>World.cell?_of_block (a:=⟨b,j,none⟩) (ho.block b hlt hbP hbX);refine⟨b,o,hA,Zl hlt ho.size,fun i hi=>?_⟩;obtain⟨c0,c1,c2⟩:=hcl i hi;exact⟨(q _).trans c0,(q _).trans c1,(q _).trans c2⟩
theorem Oth2.refl(a b:Nat)(w:World):Oth2 a b w w:=⟨rfl,rfl,rfl,zN _,fun _ _ _ _=>rfl⟩
theorem Oth2.trans{a b:Nat}{w w1 w2:World}(h:Oth2 a b w w1)(h':Oth2 a b w1 w2):Oth2 a b w w2 :=
 ⟨h'.os.trans h.os,h'.tape.trans h.tape,h'.output.trans h.output,zR h.size h'.size,fun k hk h1 h2=>(h'.block k (Zl hk h.size) h1 h2).trans (h.block k hk h1 h2)⟩
theorem Oth2.left{a b:Nat}{w w1:World}(h:Oth a w w1):Oth2 a b w w1:=⟨h.os,h.tape,h.output,h.size,fun k hk h1 _=>h.block k hk (fun e=>h1 (zO e))⟩
theorem Oth2.right{a b:Nat}{w w1:World}(h:Oth b w w1):Oth2 a b w w1:=⟨h.os,h.tape,h.output,h.size,fun k hk _ h2=>h.block k hk (fun e=>h2 (zO e))⟩
structure ItF(w0 w:World)(P I:Nat)(G:Hd)(p:Lfc.PE)(k:Nat)(cs:Array Value):Prop where
 pw:PW w P G p k
 it:w.heap[I]?=some (.cells cs 42 (0,0))
 ne:I≠P
 off:G.off p I
 oth:Oth2 P I w0 w
 sz:cs.size=22
theorem ItF.call{w0 w w':World}{P I k k':Nat}{G:Hd}{p:Lfc.PE}{cs:Array Value}(h:ItF w0 w P I G p k cs)(hp:PW w' P G p k')(o:Oth P w w'):ItF w0 w' P I G p k' cs :=
 ⟨hp,o.heap h.it h.ne,h.ne,h.off,h.oth.trans (Oth2.left o),h.sz⟩
theorem ItF.below{w0 w w':World}{P I k:Nat}{G:Hd}{p:Lfc.PE}{cs:Array Value}(h:ItF w0 w P I G p k cs)(b:Below w.heap.size w w'):ItF w0 w' P I G p k cs :=
 h.call (h.pw.below b) (zE b)
theorem ItF.lt{w0 w:World}{P I k:Nat}{G:Hd}{p:Lfc.PE}{cs:Array Value}(h:ItF w0 w P I G p k cs):I<w.heap.size:=zL h.it
theorem ItF.again{w0 w:World}{P I k:Nat}{G:Hd}{p:Lfc.PE}{cs:Array Value}(h:ItF w0 w P I G p k cs):ItF w w P I G p k cs:=⟨h.pw,h.it,h.ne,h.off,Oth2.refl _ _ _,h.sz⟩
theorem PW.oth{w w':World}{P J k:Nat}{G:Hd}{p:Lfc.PE}(h:PW w P G p k)(hJ:G.off p J)(hn:J≠P)(o:Oth J w w'):PW w' P G p k:=h.to3 hJ (Oth2.right o) (o.heap h.1 (Ne.symm hn))
theorem ItF.set{w0 w:World}{P I k:Nat}{G:Hd}{p:Lfc.PE}{cs:Array Value}(h:ItF w0 w P I G p k cs)(j:Nat)(v:Value)(hj:j<22) :
  ∃s u,w.setCell ⟨I,j,none⟩ v=s∧w.cell? ⟨I,j,none⟩=some u∧w.frozen? ⟨I,j,none⟩=false∧Hid (ItF w0 s P I G p k (cs.setIfInBounds j v)):=by
 refine⟨_,cs[j]'(by rw[h.sz];exact hj),rfl,(zC h.it j).trans (Array.getElem?_eq_getElem _),zF h.it j,zH ?_⟩;have o:Oth I w (w.setCell ⟨I,j,none⟩ v):=Oth.set _ _;exact⟨h.pw.oth h.off h.ne o,by simp[World.setCell,zM,h.it],h.ne,h.off,h.oth.trans (Oth2.right o),by simpa using h.sz⟩
def ItRes(P I:Nat)(G:Hd)(p:Lfc.PE)(w:World):ItR→Ending→World→Prop
 |.out,_,_=>True
 |.err c a,e,w'=>e=Flt c a∧Oth2 P I w w'
 |.ok x k,e,w'=>e=.returned (.tuple #[])∧(∃G',PW w' P G' ⟨p.toks,p.fin,x.2⟩ k∧∀J,J<w.heap.size→G.off p J→G'.off ⟨p.toks,p.fin,x.2⟩ J)∧ItB w' I w.heap.size x.1∧Oth2 P I w w'
theorem ItF.ret{w0 w:World}{P I k:Nat}{G:Hd}{p:Lfc.PE}{cs:Array Value}(h:ItF w0 w P I G p k cs)(x:Itm)(s:IS)(hc:cs=itCells x s)(hv:Stays (fun b=>w0.heap.size≤b) w fun W=>ItV W x s):ItRes P I G p w0 (.ok (x,p.ops) k) (.returned (.tuple #[])) w :=
 ⟨rfl,⟨G,h.pw,fun _ _ h=>h⟩,⟨s,by rw[←hc];exact h.it,hv⟩,h.oth⟩
theorem expr_one{lo:Nat}{wc w1:World}{t:Raw}{k q:Int}{n:List UInt8}{us:List Raw}{A:Option Addr}{c:Nat}(ty:TypeId)(hs:lo≤wc.heap.size)(hz:wc.heap.size≤w1.heap.size)(hp:TreeP (fun b=>wc.heap.size≤b) w1 t (.int .i64 k) (S n) (.int .i64 q) (.slice A us.length c)) :
  ∃wb,w1.alloc (.cells #[.int .i64 k,S n,.int .i64 q,.slice A us.length c] ty)=wb∧Below w1.heap.size w1 wb∧Hid (Stays (fun b=>lo≤b) wb fun W=>TreesAt W (some ⟨w1.heap.size,0,none⟩) [t]):=by
 refine⟨_,rfl,(zB _ _).alloc (zN _) _,zH fun w' h1 h2 _=>?_⟩;have b1:Below w1.heap.size w1 (w1.alloc (.cells #[.int .i64 k,S n,.int .i64 q,.slice A us.length c] ty)):=(zB _ _).alloc (zN _) _;have q1:(w1.alloc (.cells #[.int .i64 k,S n,.int .i64 q,.slice A us.length c] ty)).heap[w1.heap.size]?=some (.cells #[.int .i64 k,S n,.int .i64 q,.slice A us.length c] ty (0,0)):=zW _ _;have hq:=(h2 w1.heap.size (zR hs hz) (zL q1)).trans q1;have hp':TreeP (fun b=>lo≤b) w' t (.int .i64 k) (S n) (.int .i64 q) (.slice A us.length c):=TreeP.keep (fun b hb hlt=>(h2 b (zR hs hb) (Zl hlt b1.size)).trans (b1.block b hlt)) (zR b1.size h1) (fun b _ hb=>zR hs hb) _ _ _ _ _ hp;exact⟨w1.heap.size,0,rfl,zL hq,TreesP.toC [t] _ _ ((RowP.one hp').lie fun j u hj=>by rw[Nat.zero_add,zC hq j];simpa using hj)⟩
theorem ItF.rebase{w0 wb w:World}{P I k:Nat}{G:Hd}{p:Lfc.PE}{cs:Array Value}(h:ItF wb w P I G p k cs)(o:Oth2 P I w0 wb):ItF w0 w P I G p k cs:=⟨h.pw,h.it,h.ne,h.off,o.trans h.oth,h.sz⟩
theorem PW.ops{w:World}{P k:Nat}{G:Hd}{p:Lfc.PE}(h:PW w P G p k){A:Option Addr}{c:Nat}{l:List Lfc.Op}(ho:OpsAt w A l):PW (w.setCell ⟨P,3,none⟩ (.slice A l.length c)) P ⟨G.A,G.c,A,c⟩ ⟨p.toks,p.fin,l⟩ k:=by
 have hn:=h.noStr;have o:Oth P w (w.setCell ⟨P,3,none⟩ (.slice A l.length c)):=Oth.set w _;obtain⟨h1,h2,h3⟩:=h;exact⟨by simp[World.setCell,zM,h1],h2.oth hn o,ho.oth hn o⟩
theorem name_le{p:Lfc.PE}(ok:POk p){k k':Nat}{n:List UInt8}(h:p.name k=.ok n k'):n.length≤1000000:=by
 obtain⟨h1,_,rfl⟩:=Lfc.PE.name_ok h;have:=(ok.tok _ (List.mem_of_getElem? (PE.pk_of h1))).1;omega
theorem _root_.Lfc.idxW_lt(s:List UInt8):∀ws:List (List UInt8),idxW s ws<(ws.length:Int)
 |[]=>by simp[idxW]
 |a :: r=>by
  have:=Lfc.idxW_lt s r;rw[idxW];simp only[List.length_cons];split
  ·omega
  split <;> omega
theorem _root_.Lfc.PE.word_ok{p:Lfc.PE}{k k':Nat}{i:Int}{ws:List (List UInt8)}(h:p.word k ws=.ok i k'):0≤i∧i<(ws.length:Int)∧(p.pk k).kind=1∧idxW (p.pk k).text ws=i:=by
 unfold Lfc.PE.word at h;split at h
 ·exact(Lfc.PE.unexp_ok h).elim
 rename_i hn;cases h;have:=Lfc.idxW_lt (p.pk k).text ws;exact⟨Int.not_lt.1 fun e=>hn (.inl e),this,Decidable.byContradiction fun e=>hn (.inr e),rfl⟩
theorem StrsAt.below{w w':World}{A:Option Addr}{l:List (List UInt8)}(h:StrsAt w A l)(hb:Below w.heap.size w w'):StrsAt w' A l:=fun hne=>by
 obtain⟨b,o,hA,hlt,hc⟩:=h hne;exact⟨b,o,hA,Zl hlt hb.size,fun i hi=>(hb.cell (p:=⟨b,_,none⟩) hlt).trans (hc i hi)⟩
theorem NumsAt.below{w w':World}{A:Option Addr}{l:List Int}(h:NumsAt w A l)(hb:Below w.heap.size w w'):NumsAt w' A l:=fun hne=>by
 obtain⟨b,o,hA,hlt,hc⟩:=h hne;exact⟨b,o,hA,Zl hlt hb.size,fun i hi=>(hb.cell (p:=⟨b,_,none⟩) hlt).trans (hc i hi)⟩
theorem BndC.below{w w':World}{b o:Nat}{x:Bnd}(h:BndC w b o x)(hb:Below w.heap.size w w')(hlt:b<w.heap.size):BndC w' b o x:=by
 obtain⟨v0,v1,v2,v3,c0,hn,c1,c2,c3,c4,ht⟩:=h;exact⟨v0,v1,v2,v3,(hb.cell (p:=⟨b,_,none⟩) hlt).trans c0,hn,(hb.cell (p:=⟨b,_,none⟩) hlt).trans c1,(hb.cell (p:=⟨b,_,none⟩) hlt).trans c2,(hb.cell (p:=⟨b,_,none⟩) hlt).trans c3,(hb.cell (p:=⟨b,_,none⟩) hlt).trans c4,TreeC.below hb _ _ _ _ _ ht⟩
theorem BndsAt.below{w w':World}{A:Option Addr}{l:List Bnd}(h:BndsAt w A l)(hb:Below w.heap.size w w'):BndsAt w' A l:=fun hne=>by
 obtain⟨b,o,hA,hlt,hc⟩:=h hne;exact⟨b,o,hA,Zl hlt hb.size,fun i hi=>(hc i hi).below hb hlt⟩
theorem FOrdC.below{w w':World}{b o:Nat}{x:List UInt8 × Lfc.Ord}(h:FOrdC w b o x)(hb:Below w.heap.size w w')(hlt:b<w.heap.size):FOrdC w' b o x:=by
 obtain⟨v0,v1,v2,c0,hn,c1,c2,c3,ho⟩:=h;exact⟨v0,v1,v2,(hb.cell (p:=⟨b,_,none⟩) hlt).trans c0,hn,(hb.cell (p:=⟨b,_,none⟩) hlt).trans c1,(hb.cell (p:=⟨b,_,none⟩) hlt).trans c2,(hb.cell (p:=⟨b,_,none⟩) hlt).trans c3,OrdC.below hb _ _ _ _ ho⟩
theorem FOrdsAt.below{w w':World}{A:Option Addr}{l:List (List UInt8 × Lfc.Ord)}(h:FOrdsAt w A l)(hb:Below w.heap.size w w'):FOrdsAt w' A l:=fun hne=>by
 obtain⟨b,o,hA,hlt,hc⟩:=h hne;exact⟨b,o,hA,Zl hlt hb.size,fun i hi=>(hc i hi).below hb hlt⟩
theorem ItV.below{w w':World}{x:Itm}{s:IS}(h:ItV w x s)(hb:Below w.heap.size w w'):ItV w' x s :=
 ⟨h.name,h.opn,⟨h.ty.1.below hb,h.ty.2⟩,⟨h.va.1.below hb,h.va.2⟩,⟨h.so.1.below hb,h.so.2⟩,⟨h.pa.1.below hb,h.pa.2⟩,⟨h.bl.1.below hb,h.bl.2⟩,⟨h.fa.1.below hb,h.fa.2⟩,⟨h.si.1.below hb,h.si.2⟩,⟨h.od.1.below hb,h.od.2⟩,⟨h.le.1.below hb,h.le.2⟩,⟨h.ri.1.below hb,h.ri.2⟩⟩
end Go.Proofs.YthajalgkjonaaaaGreatDoor
namespace Lfc
def Ord.no:Ord→Bool
 |.node k a ps=>decide (k=0) && decide (a=0) && decide (ps.length=0)
def Itm.lens(x:Itm):Nat:=x.type.length+x.value.length+x.som.length+x.params.length+x.blocks.length+x.fams.length+x.signs.length+x.orders.length
def Itm.blank(x:Itm):Bool:=decide (x.lens=0) && decide (x.name=[]) && (decide (x.op.name=[]) && decide (x.op.fix=0) && decide (x.op.prec=0)) && x.left.no && x.right.no && decide (x.rel=0) && decide (x.count=0)
end Lfc
namespace Go.Proofs.YthajalgkjonaaaaGreatDoor
open Go.RowKit _root_.Lfc
theorem it_set{w:World}{K:Nat}{cs:Array Value}(h:w.heap[K]?=some (.cells cs 42 (0,0)))(hs:cs.size=22)(j:Nat)(v:Value)(hj:j<22) :
  ∃s u,w.setCell ⟨K,j,none⟩ v=s∧w.cell? ⟨K,j,none⟩=some u∧w.frozen? ⟨K,j,none⟩=false∧Hid (s.heap[K]?=some (.cells (cs.setIfInBounds j v) 42 (0,0))∧(cs.setIfInBounds j v).size=22∧Oth K w s) :=
 ⟨_,cs[j]'(by omega),rfl,(zC h j).trans (Array.getElem?_eq_getElem _),zF h j,zH ⟨by simp[World.setCell,zM,h],by simpa using hs,Oth.set _ _⟩⟩
theorem it_loadC{w:World}{b o:Nat}{cs:Array Value}(h:∀j v,cs[j]?=some v→w.cell? ⟨b,o+j,none⟩=some v)(hs:cs.size=22):(Instr.loadAt 42 (.pointer (some ⟨b,o,none⟩))).run Tryz.prog w=.ok (.agg cs) w :=
 run_loadAt_mid w b o 42 cs.toList _ (fun j v hv=>h j v (by simpa using hv)) Tryz.underlying42 rfl (by rw[Array.length_toList,hs];kernel_rfl)
theorem it_load{w:World}{K:Nat}{cs:Array Value}(h:w.heap[K]?=some (.cells cs 42 (0,0)))(hs:cs.size=22):(Instr.loadAt 42 (.pointer (some ⟨K,0,none⟩))).run Tryz.prog w=.ok (.agg cs) w :=
 it_loadC (fun j v hv=>by rw[Nat.zero_add,zC h j];exact hv) hs
theorem wpList_it{ops:Array Oper}{rest:List Oper}{o:Oper}{a:Act}{w:World}{Q:Exit→Act→World→Prop}{x:Operand}{p:Value}{cs:Array Value}(ho:o.op=.load 42 x)(hx:a.eval x=p)(hw:Region.wanted o (yielded ops a.tmps)=true)
  (hl:(Instr.loadAt 42 p).run Tryz.prog w=.ok (.agg cs) w) (h:wpList Tryz.prog ops Q rest (a.put o.dst (.agg cs)) w):wpList Tryz.prog ops Q (o :: rest) a w:=by
 refine wpList_step fun K hK=>?_;rw[if_pos hw];unfold Oper.wp execOp;simp only[ho,hx,Sem.run_bind,Sem.run_pure,Result.andThen_ok,hl];exact hK _ _ h
theorem noOrder_any(k a:Int)(A:Option Addr)(n c:Nat)(w:World):Calls Tryz.prog 148 #[.agg #[zI k,zI a,.slice A n c]] w fun e w'=>e=.returned (.bool (decide (k=0) && decide (a=0) && decide (n=0)))/\zb w w':=by
 obtain⟨w1,hw1⟩:∃w1,w.alloc (.cells #[zI k,zI a,.slice A n c] 40)=w1:=⟨_,rfl⟩;have b1:=zG hw1;have q1:=zQ hw1;have x0:=zC q1 0;have x1:=zC q1 1;have x2:=zC q1 2;simp at x0 x1 x2;clear q1;have e1:(k == 0)=decide (k=0):=by by_cases h:k=0 <;> simp[h]
 have e2:(a == 0)=decide (a=0):=by by_cases h:a=0 <;> simp[h]
 have e3:((n:Int) == 0)=decide (n=0):=by by_cases h:n=0 <;> simp[h]
 generalize decide (k=0)=p1 at *;generalize decide (a=0)=p2 at *;generalize decide (n=0)=p3 at *;cases p1
 ·go_enter Tryz.func148,Tryz.ntmps148;go_upto_region 1 with fail;clear hw1;go_wp2_with fail;go_ret;exact⟨rfl,b1⟩
 cases p2
 ·go_enter Tryz.func148,Tryz.ntmps148;go_upto_region 1 with fail;clear hw1;go_wp2_with fail;go_ret;exact⟨rfl,b1⟩
 go_enter Tryz.func148,Tryz.ntmps148;go_upto_region 1 with fail;clear hw1;go_wp2_with fail;go_ret;exact⟨rfl,b1⟩
theorem op_guard:Tryz.prog.eqGuardType Tryz.prog.depth 34=false:=by kernel_rfl
theorem op_zero(n:List UInt8)(f p:Int)(w:World):(Op.equalIn 10000 34 (.agg #[S n,.int .i64 f,.int .i64 p]) (.agg #[S [],.int .i64 0,.int .i64 0])).run Tryz.prog w=.ok (decide (n=[]) && decide (f=0) && decide (p=0)) w:=by
 have u3:=Tryz.underlying3;have a3:=Tryz.isAgg3;have z3:=Tryz.sizeOf3;have u9:=Tryz.underlying9;have a9:=Tryz.isAgg9;have z9:=Tryz.sizeOf9;have hS:Tryz.prog.underlying 34=some (.struct (Tryz.prog.fieldsOf 34)):=by kernel_rfl
 have hp:Tryz.prog.stoodInHeld 34=false:=by kernel_rfl
 rw[show(10000:Nat)=9999+1 from rfl,run_equalIn_agg w 9999 34 _ _ hS hp];simp only[Program.fieldsOf,Tryz.underlying34];go_simp;by_cases h1:n=[] <;> by_cases h2:f=0 <;> by_cases h3:p=0 <;> simp[h1,h2,h3]
theorem only_any(F:FuncId)(he:∀args w,(callFunc F args).run Tryz.prog w=.ok (.enter F args) w)(x x':Itm)(s s':IS)(w:World)(hx:x'.lens<=1000000)
  (hF:∀(W:World)(K:Nat),W.heap[K]?=some (.cells (itCells x s) 42 (0,0))->Calls Tryz.prog F #[.pointer (some ⟨K,0,none⟩)] W fun e w'=>e=.returned (.tuple #[])/\Oth K W w'/\w'.heap[K]?=some (.cells (itCells x' s') 42 (0,0))) :
  Calls Tryz.prog 81 #[.agg (itCells x s),.func (.func F) #[] #[]] w fun e w'=>e=.returned (.bool x'.blank)/\zb w w':=by
 obtain⟨w1,hw1⟩:∃w1,w.alloc (.cells (itCells x s) 42)=w1:=⟨_,rfl⟩;have b1:=zG hw1;have q1:=zQ hw1;have C:=zH (hF w1 w.heap.size q1);have HLT:=zH (zL q1);clear hF q1;obtain⟨c0,c1,c2,c3,c4,c5,c6,c7,c8,c9,c10,c11,c12,c13,c14,c15,c16,c17,c18,c19,c20,c21,hcs⟩:∃c0 c1 c2 c3 c4 c5 c6 c7 c8 c9 c10 c11 c12 c13 c14 c15 c16 c17 c18 c19 c20 c21,itCells x s=#[c0,c1,c2,c3,c4,c5,c6,c7,c8,c9,c10,c11,c12,c13,c14,c15,c16,c17,c18,c19,c20,c21]:=⟨_,_,_,_,_,_,_,_,_,_,_,_,_,_,_,_,_,_,_,_,_,_,rfl⟩;rw[hcs] at hw1 ⊢;have HCS:=zH hcs;clear hcs;have main:∀(p1 p2 p3 p4 p5 p6 p7:Bool),(x'.lens=0↔p1=true)->decide (x'.name=[])=p2->(decide (x'.op.name=[]) && decide (x'.op.fix=0) && decide (x'.op.prec=0))=p3->x'.left.no=p4->x'.right.no=p5->decide (x'.rel=0)=p6->decide (x'.count=0)=p7 ->
   Calls Tryz.prog 81 #[.agg #[c0,c1,c2,c3,c4,c5,c6,c7,c8,c9,c10,c11,c12,c13,c14,c15,c16,c17,c18,c19,c20,c21],.func (.func F) #[] #[]] w fun e w'=>e=.returned (.bool (p1 && p2 && p3 && p4 && p5 && p6 && p7))/\zb w w':=by
  intro p1 p2 p3 p4 p5 p6 p7 h1 h2 h3 h4 h5 h6 h7;obtain⟨kind,pos,name,type,value,⟨on,of,op⟩,som,params,blocks,fams,signs,orders,⟨lk,la,lp⟩,⟨rk,ra,rp⟩,rel,count⟩:=x';simp only[Itm.lens,Lfc.Ord.no] at h1 h2 h3 h4 h5 h6 h7 hx;have e1:((type.length:Int)+value.length+som.length+params.length+blocks.length+fams.length+signs.length+orders.length == 0)=p1:=by
   by_cases h:type.length+value.length+som.length+params.length+blocks.length+fams.length+signs.length+orders.length=0
   ·rw[h1.1 h];simp only[beq_iff_eq];omega
   have hp:p1=false:=by
    cases p1
    ·rfl
    exact absurd (h1.2 rfl) h
   rw[hp];simp only[beq_eq_false_iff_ne,ne_eq];omega
  have e2:(name == [])=p2:=by rw[<-h2];by_cases h:name=[] <;> simp[h]
  have e3:∀W:World,(Op.equalIn 10000 34 (.agg #[S on,zI of,zI op]) (.agg #[S [],zI 0,zI 0])).run Tryz.prog W=.ok p3 W:=fun W=>by rw[op_zero,h3]
  have e3':=op_guard;have e6:(rel == 0)=p6:=by rw[<-h6];by_cases h:rel=0 <;> simp[h]
  have e7:(count == 0)=p7:=by rw[<-h7];by_cases h:count=0 <;> simp[h]
  have s1:IntKind.i64.wrap ((type.length:Int)+value.length)=(type.length:Int)+value.length:=Zi _ (by omega);have s2:IntKind.i64.wrap ((type.length:Int)+value.length+som.length)=(type.length:Int)+value.length+som.length:=Zi _ (by omega);have s3:IntKind.i64.wrap ((type.length:Int)+value.length+som.length+params.length)=(type.length:Int)+value.length+som.length+params.length:=Zi _ (by omega);have s4:IntKind.i64.wrap ((type.length:Int)+value.length+som.length+params.length+blocks.length)=(type.length:Int)+value.length+som.length+params.length+blocks.length:=Zi _ (by omega);have s5:IntKind.i64.wrap ((type.length:Int)+value.length+som.length+params.length+blocks.length+fams.length)=(type.length:Int)+value.length+som.length+params.length+blocks.length+fams.length:=Zi _ (by omega);have s6:IntKind.i64.wrap ((type.length:Int)+value.length+som.length+params.length+blocks.length+fams.length+signs.length)=(type.length:Int)+value.length+som.length+params.length+blocks.length+fams.length+signs.length:=Zi _ (by omega);have s7:IntKind.i64.wrap ((type.length:Int)+value.length+som.length+params.length+blocks.length+fams.length+signs.length+orders.length)=(type.length:Int)+value.length+som.length+params.length+blocks.length+fams.length+signs.length+orders.length:=Zi _ (by omega);have CL:=zH (fun W=>noOrder_any lk la s'.le.1 lp.length s'.le.2 W);have CR:=zH (fun W=>noOrder_any rk ra s'.ri.1 rp.length s'.ri.2 W);rw[h4] at CL;rw[h5] at CR;simp only[itCells,Lfc.Ord.k,Lfc.Ord.a,Lfc.Ord.ps] at C;generalize type.length=n1 at *;generalize value.length=n2 at *;generalize som.length=n3 at *;generalize params.length=n4 at *;generalize blocks.length=n5 at *;generalize fams.length=n6 at *;generalize signs.length=n7 at *;generalize orders.length=n8 at *;generalize lp.length=n9 at *;generalize rp.length=n10 at *;clear h1 h2 h3 h4 h5 h6 h7;cases p1
  ·go_enter Tryz.func81,Tryz.ntmps81;go_upto_region 1 with fail;clear hw1;go_upto_region 2 with(go_simp;refine C.o.mono ?_;rintro e w2⟨rfl,o2,q2⟩);have b2:zb w w2:=Oth.below b1 o2 (zN _) (Nat.le_of_lt HLT.o);have y2:=zC q2 2;have y3:=zC q2 3;have y4:=zC q2 4;have y5:=zC q2 5;have y6:=zC q2 6;have y7:=zC q2 7;have y8:=zC q2 8;have y9:=zC q2 9;have y10:=zC q2 10;have y11:=zC q2 11;have y12:=zC q2 12;have y13:=zC q2 13;have y14:=zC q2 14;have y15:=zC q2 15;have y16:=zC q2 16;have y17:=zC q2 17;have y18:=zC q2 18;have y19:=zC q2 19;have y20:=zC q2 20;have y21:=zC q2 21;simp at y2 y3 y4 y5 y6 y7 y8 y9 y10 y11 y12 y13 y14 y15 y16 y17 y18 y19 y20 y21;clear q2 o2;go_wp2_with fail;go_ret;exact⟨by simp,b2⟩
  cases p2
  ·go_enter Tryz.func81,Tryz.ntmps81;go_upto_region 1 with fail;clear hw1;go_upto_region 2 with(go_simp;refine C.o.mono ?_;rintro e w2⟨rfl,o2,q2⟩);have b2:zb w w2:=Oth.below b1 o2 (zN _) (Nat.le_of_lt HLT.o);have y2:=zC q2 2;have y3:=zC q2 3;have y4:=zC q2 4;have y5:=zC q2 5;have y6:=zC q2 6;have y7:=zC q2 7;have y8:=zC q2 8;have y9:=zC q2 9;have y10:=zC q2 10;have y11:=zC q2 11;have y12:=zC q2 12;have y13:=zC q2 13;have y14:=zC q2 14;have y15:=zC q2 15;have y16:=zC q2 16;have y17:=zC q2 17;have y18:=zC q2 18;have y19:=zC q2 19;have y20:=zC q2 20;have y21:=zC q2 21;simp at y2 y3 y4 y5 y6 y7 y8 y9 y10 y11 y12 y13 y14 y15 y16 y17 y18 y19 y20 y21;clear q2 o2;go_wp2_with fail;go_ret;exact⟨by simp,b2⟩
  cases p3
  ·go_enter Tryz.func81,Tryz.ntmps81;go_upto_region 1 with fail;clear hw1;go_upto_region 2 with(go_simp;refine C.o.mono ?_;rintro e w2⟨rfl,o2,q2⟩);have b2:zb w w2:=Oth.below b1 o2 (zN _) (Nat.le_of_lt HLT.o);have y2:=zC q2 2;have y3:=zC q2 3;have y4:=zC q2 4;have y5:=zC q2 5;have y6:=zC q2 6;have y7:=zC q2 7;have y8:=zC q2 8;have y9:=zC q2 9;have y10:=zC q2 10;have y11:=zC q2 11;have y12:=zC q2 12;have y13:=zC q2 13;have y14:=zC q2 14;have y15:=zC q2 15;have y16:=zC q2 16;have y17:=zC q2 17;have y18:=zC q2 18;have y19:=zC q2 19;have y20:=zC q2 20;have y21:=zC q2 21;simp at y2 y3 y4 y5 y6 y7 y8 y9 y10 y11 y12 y13 y14 y15 y16 y17 y18 y19 y20 y21;clear q2 o2;go_wp2_with fail;go_ret;exact⟨by simp,b2⟩
  cases p4
  ·go_enter Tryz.func81,Tryz.ntmps81;go_upto_region 1 with fail;clear hw1;go_upto_region 2 with(go_simp;refine C.o.mono ?_;rintro e w2⟨rfl,o2,q2⟩);have b2:zb w w2:=Oth.below b1 o2 (zN _) (Nat.le_of_lt HLT.o);have y2:=zC q2 2;have y3:=zC q2 3;have y4:=zC q2 4;have y5:=zC q2 5;have y6:=zC q2 6;have y7:=zC q2 7;have y8:=zC q2 8;have y9:=zC q2 9;have y10:=zC q2 10;have y11:=zC q2 11;have y12:=zC q2 12;have y13:=zC q2 13;have y14:=zC q2 14;have y15:=zC q2 15;have y16:=zC q2 16;have y17:=zC q2 17;have y18:=zC q2 18;have y19:=zC q2 19;have y20:=zC q2 20;have y21:=zC q2 21;simp at y2 y3 y4 y5 y6 y7 y8 y9 y10 y11 y12 y13 y14 y15 y16 y17 y18 y19 y20 y21;clear q2 o2;go_wp2_with (go_at_call 148;refine(CL.o _).mono ?_;rintro e w3⟨rfl,b3⟩;have z3:=b2.trans (b3.mono b2.size));go_ret;exact⟨by simp,z3⟩
  cases p5
  ·go_enter Tryz.func81,Tryz.ntmps81;go_upto_region 1 with fail;clear hw1;go_upto_region 2 with(go_simp;refine C.o.mono ?_;rintro e w2⟨rfl,o2,q2⟩);have b2:zb w w2:=Oth.below b1 o2 (zN _) (Nat.le_of_lt HLT.o);have y2:=zC q2 2;have y3:=zC q2 3;have y4:=zC q2 4;have y5:=zC q2 5;have y6:=zC q2 6;have y7:=zC q2 7;have y8:=zC q2 8;have y9:=zC q2 9;have y10:=zC q2 10;have y11:=zC q2 11;have y12:=zC q2 12;have y13:=zC q2 13;have y14:=zC q2 14;have y15:=zC q2 15;have y16:=zC q2 16;have y17:=zC q2 17;have y18:=zC q2 18;have y19:=zC q2 19;have y20:=zC q2 20;have y21:=zC q2 21;simp at y2 y3 y4 y5 y6 y7 y8 y9 y10 y11 y12 y13 y14 y15 y16 y17 y18 y19 y20 y21;clear q2 o2;have HR:=zH (fun W (hb:zb w2 W)=>And.intro ((hb.cell (p:=⟨w.heap.size,17,none⟩) (lt_of_cell' y17)).trans y17) (And.intro ((hb.cell (p:=⟨w.heap.size,18,none⟩) (lt_of_cell' y18)).trans y18) (And.intro ((hb.cell (p:=⟨w.heap.size,19,none⟩) (lt_of_cell' y19)).trans y19) (And.intro ((hb.cell (p:=⟨w.heap.size,20,none⟩) (lt_of_cell' y20)).trans y20) ((hb.cell (p:=⟨w.heap.size,21,none⟩) (lt_of_cell' y21)).trans y21)))));go_wp2_with (go_at_call 148;first | ((with_reducible refine(CL.o _).mono ?_);rintro e w3⟨rfl,b3⟩;obtain⟨z17,z18,z19,z20,z21⟩:=HR.o _ b3;have b4:=b2.trans (b3.mono b2.size)) | ((with_reducible refine(CR.o _).mono ?_);rintro e w5⟨rfl,b5⟩;have b6:=b4.trans (b5.mono b4.size);have t20:=(b5.cell (p:=⟨w.heap.size,20,none⟩) (lt_of_cell' z20)).trans z20;have t21:=(b5.cell (p:=⟨w.heap.size,21,none⟩) (lt_of_cell' z21)).trans z21));go_ret;exact⟨by simp,by first | exact b6 | exact b4⟩
  cases p6
  ·go_enter Tryz.func81,Tryz.ntmps81;go_upto_region 1 with fail;clear hw1;go_upto_region 2 with(go_simp;refine C.o.mono ?_;rintro e w2⟨rfl,o2,q2⟩);have b2:zb w w2:=Oth.below b1 o2 (zN _) (Nat.le_of_lt HLT.o);have y2:=zC q2 2;have y3:=zC q2 3;have y4:=zC q2 4;have y5:=zC q2 5;have y6:=zC q2 6;have y7:=zC q2 7;have y8:=zC q2 8;have y9:=zC q2 9;have y10:=zC q2 10;have y11:=zC q2 11;have y12:=zC q2 12;have y13:=zC q2 13;have y14:=zC q2 14;have y15:=zC q2 15;have y16:=zC q2 16;have y17:=zC q2 17;have y18:=zC q2 18;have y19:=zC q2 19;have y20:=zC q2 20;have y21:=zC q2 21;simp at y2 y3 y4 y5 y6 y7 y8 y9 y10 y11 y12 y13 y14 y15 y16 y17 y18 y19 y20 y21;clear q2 o2;have HR:=zH (fun W (hb:zb w2 W)=>And.intro ((hb.cell (p:=⟨w.heap.size,17,none⟩) (lt_of_cell' y17)).trans y17) (And.intro ((hb.cell (p:=⟨w.heap.size,18,none⟩) (lt_of_cell' y18)).trans y18) (And.intro ((hb.cell (p:=⟨w.heap.size,19,none⟩) (lt_of_cell' y19)).trans y19) (And.intro ((hb.cell (p:=⟨w.heap.size,20,none⟩) (lt_of_cell' y20)).trans y20) ((hb.cell (p:=⟨w.heap.size,21,none⟩) (lt_of_cell' y21)).trans y21)))));go_wp2_with (go_at_call 148;first | ((with_reducible refine(CL.o _).mono ?_);rintro e w3⟨rfl,b3⟩;obtain⟨z17,z18,z19,z20,z21⟩:=HR.o _ b3;have b4:=b2.trans (b3.mono b2.size)) | ((with_reducible refine(CR.o _).mono ?_);rintro e w5⟨rfl,b5⟩;have b6:=b4.trans (b5.mono b4.size);have t20:=(b5.cell (p:=⟨w.heap.size,20,none⟩) (lt_of_cell' z20)).trans z20;have t21:=(b5.cell (p:=⟨w.heap.size,21,none⟩) (lt_of_cell' z21)).trans z21));go_ret;exact⟨by simp,by first | exact b6 | exact b4⟩
  go_enter Tryz.func81,Tryz.ntmps81;go_upto_region 1 with fail;clear hw1;go_upto_region 2 with(go_simp;refine C.o.mono ?_;rintro e w2⟨rfl,o2,q2⟩);have b2:zb w w2:=Oth.below b1 o2 (zN _) (Nat.le_of_lt HLT.o);have y2:=zC q2 2;have y3:=zC q2 3;have y4:=zC q2 4;have y5:=zC q2 5;have y6:=zC q2 6;have y7:=zC q2 7;have y8:=zC q2 8;have y9:=zC q2 9;have y10:=zC q2 10;have y11:=zC q2 11;have y12:=zC q2 12;have y13:=zC q2 13;have y14:=zC q2 14;have y15:=zC q2 15;have y16:=zC q2 16;have y17:=zC q2 17;have y18:=zC q2 18;have y19:=zC q2 19;have y20:=zC q2 20;have y21:=zC q2 21;simp at y2 y3 y4 y5 y6 y7 y8 y9 y10 y11 y12 y13 y14 y15 y16 y17 y18 y19 y20 y21;clear q2 o2;have HR:=zH (fun W (hb:zb w2 W)=>And.intro ((hb.cell (p:=⟨w.heap.size,17,none⟩) (lt_of_cell' y17)).trans y17) (And.intro ((hb.cell (p:=⟨w.heap.size,18,none⟩) (lt_of_cell' y18)).trans y18) (And.intro ((hb.cell (p:=⟨w.heap.size,19,none⟩) (lt_of_cell' y19)).trans y19) (And.intro ((hb.cell (p:=⟨w.heap.size,20,none⟩) (lt_of_cell' y20)).trans y20) ((hb.cell (p:=⟨w.heap.size,21,none⟩) (lt_of_cell' y21)).trans y21)))));go_wp2_with (go_at_call 148;first | ((with_reducible refine(CL.o _).mono ?_);rintro e w3⟨rfl,b3⟩;obtain⟨z17,z18,z19,z20,z21⟩:=HR.o _ b3;have b4:=b2.trans (b3.mono b2.size)) | ((with_reducible refine(CR.o _).mono ?_);rintro e w5⟨rfl,b5⟩;have b6:=b4.trans (b5.mono b4.size);have t20:=(b5.cell (p:=⟨w.heap.size,20,none⟩) (lt_of_cell' z20)).trans z20;have t21:=(b5.cell (p:=⟨w.heap.size,21,none⟩) (lt_of_cell' z21)).trans z21));go_ret;exact⟨by simp,by first | exact b6 | exact b4⟩
 have:=main (decide (x'.lens=0)) _ _ _ _ _ _ (by simp) rfl rfl rfl rfl rfl rfl;exact this
theorem clr1(x:Itm)(s:IS)(K:Nat)(w:World)(h:w.heap[K]?=some (.cells (itCells x s) 42 (0,0))):Calls Tryz.prog 82 #[.pointer (some ⟨K,0,none⟩)] w fun e w'=>e=.returned (.tuple #[])/\Oth K w w'/\w'.heap[K]?=some (.cells (itCells { x with name:=[],type:=[] } { s with ty:=(none,0) }) 42 (0,0)):=by
 have g0:=zJ h (And.intro (show(itCells x s).size=22 from rfl) (Oth.refl K w));obtain⟨s1,u1,e1,y1,z1,g1⟩:=it_set g0.o.1 g0.o.2.1 2 (S []) (by decide);obtain⟨s2,u2,e2,y2,z2,g2⟩:=it_set g1.o.1 g1.o.2.1 3 zS (by decide);have R:=zJ (((Oth.refl K w).trans g1.o.2.2).trans g2.o.2.2) g2.o.1;clear h g0 g1 g2;go_enter Tryz.func82,Tryz.ntmps82;go_wp2_with fail
 go_end0
 exact⟨rfl,R.o.1,R.o.2.trans (by obtain⟨_,_,_,_,_,⟨_,_,_⟩,_,_,_,_,_,_,⟨_,_,_⟩,⟨_,_,_⟩,_,_⟩:=x;rfl)⟩
theorem clr3(x:Itm)(s:IS)(K:Nat)(w:World)(h:w.heap[K]?=some (.cells (itCells x s) 42 (0,0))):Calls Tryz.prog 84 #[.pointer (some ⟨K,0,none⟩)] w fun e w'=>e=.returned (.tuple #[])/\Oth K w w'/\w'.heap[K]?=some (.cells (itCells { x with op:=⟨[],0,0⟩ } s) 42 (0,0)):=by
 have g0:=zJ h (And.intro (show(itCells x s).size=22 from rfl) (Oth.refl K w));obtain⟨s1,u1,e1,y1,z1,g1⟩:=it_set g0.o.1 g0.o.2.1 5 (S []) (by decide);obtain⟨s2,u2,e2,y2,z2,g2⟩:=it_set g1.o.1 g1.o.2.1 6 (zI 0) (by decide);obtain⟨s3,u3,e3,y3,z3,g3⟩:=it_set g2.o.1 g2.o.2.1 7 (zI 0) (by decide);have R:=zJ ((((Oth.refl K w).trans g1.o.2.2).trans g2.o.2.2).trans g3.o.2.2) g3.o.1;clear h g0 g1 g2 g3;go_enter Tryz.func84,Tryz.ntmps84;go_wp2_with fail
 go_end0
 exact⟨rfl,R.o.1,R.o.2.trans (by obtain⟨_,_,_,_,_,⟨_,_,_⟩,_,_,_,_,_,_,⟨_,_,_⟩,⟨_,_,_⟩,_,_⟩:=x;rfl)⟩
end Go.Proofs.YthajalgkjonaaaaGreatDoor
namespace Lfc
mutual
def Ord.ofm(o:Int):Ord→Bool
 |.node k a ps=>if k=1 then decide (1≤a) && decide (a≤64) && decide (ps.length=0) else if k=2∨k=3 then decide (a=0) && decide (0<ps.length) && decide (o+1<128) && Ord.ofms (o+1) ps else false
def Ord.ofms(o:Int):List Ord→Bool
 |[]=>true
 |a :: r=>Ord.ofm o a && Ord.ofms o r
end
theorem Ord.ofms_any(o:Int):∀l:List Ord,l.any (fun x=>!x.ofm o)=!Ord.ofms o l
 |[]=>rfl
 |a :: r=>by rw[List.any_cons,Ord.ofms_any o r,Ord.ofms,Bool.not_and]
def namesF'(l:List (List UInt8)):Bool:=!l.any fun s=>!isName s
def bndsF(l:List Bnd):Bool:=!l.any fun b=>!isName b.1
def fordsF(l:List (List UInt8 × Ord)):Bool:=decide (0<l.length) && !l.any fun x=>!isName x.1 || !x.2.ofm 0
def signBad(i:Int):Bool:=decide (i<1) || decide (3<i)
end Lfc
namespace Go.Proofs.YthajalgkjonaaaaGreatDoor
open Go.RowKit _root_.Lfc
theorem enters_fnames:∀args w,(callFunc 152 args).run Tryz.prog w=.ok (.enter 152 args) w:=enters_of Tryz.func152 (by kernel_rfl) rfl
theorem enters_fbnd:∀args w,(callFunc 150 args).run Tryz.prog w=.ok (.enter 150 args) w:=enters_of Tryz.func150 (by kernel_rfl) rfl
theorem enters_ford:∀args w,(callFunc 155 args).run Tryz.prog w=.ok (.enter 155 args) w:=enters_of Tryz.func155 (by kernel_rfl) rfl
theorem enters_ford1:∀args w,(callFunc 157 args).run Tryz.prog w=.ok (.enter 157 args) w:=enters_of Tryz.func157 (by kernel_rfl) rfl
theorem enters_fsign:∀args w,(callFunc 89 args).run Tryz.prog w=.ok (.enter 89 args) w:=enters_of Tryz.func89 (by kernel_rfl) rfl
theorem fnames1_any(s:List UInt8)(w:World)(hs:s.length<=1000000):Calls Tryz.prog 152 #[S s] w fun e w'=>e=.returned (.bool (!isName s))/\zb w w':=by
 have C:=zH (isName_any s w (by omega));generalize isName s=q at *;cases q;all_goals
  go_enter Tryz.func152,Tryz.ntmps152;go_wp2_with fail;refine C.o.mono ?_;rintro e w1⟨rfl,rfl⟩;go_wp2_with fail;go_ret;exact⟨rfl,zB _ _⟩
theorem fbnd1_any(s:List UInt8)(v0 v1 v2 v3:Value)(w:World)(hs:s.length<=1000000):Calls Tryz.prog 150 #[.agg #[S s,v0,v1,v2,v3]] w fun e w'=>e=.returned (.bool (!isName s))/\zb w w':=by
 have C:=zH (fun W=>isName_any s W (by omega));obtain⟨w1,hw1⟩:∃w1,w.alloc (.cells #[S s,v0,v1,v2,v3] 72)=w1:=⟨_,rfl⟩;have b1:=zG hw1;have q1:=zQ hw1;have x0:=zC q1 0;simp at x0;clear q1;generalize isName s=q at *;cases q;all_goals
  go_enter Tryz.func150,Tryz.ntmps150;go_upto_region 1 with fail;clear hw1;go_wp2_with fail;refine(C.o _).mono ?_;rintro e w1⟨rfl,rfl⟩;go_wp2_with fail;go_ret;exact⟨rfl,b1⟩
theorem fsign_any(s:Int)(w:World):Calls Tryz.prog 89 #[zI s] w fun e w'=>e=.returned (.bool (signBad s))/\zb w w':=by
 unfold signBad;have hd:decide (s>3)=decide (3<s):=rfl;rcases Int.lt_or_le s 1 with h1 | h1
 ·have e1:decide (s<1)=true:=by simpa using h1
  clear hd;go_enter Tryz.func89,Tryz.ntmps89;go_wp2_with fail;go_ret;exact⟨by first | rfl | simp[e1],zB _ _⟩
 have e1:decide (s<1)=false:=by simpa using h1
 rw[e1,Bool.false_or,<-hd];clear hd h1;go_enter Tryz.func89,Tryz.ntmps89;go_wp2_with fail;go_ret;exact⟨rfl,zB _ _⟩
theorem index_fnames(l:List (List UInt8))(A:Option Addr)(c:Nat)(w:World)(hl:l.length<=1000000000)(hA:StrsAt w A l)(hn:∀s∈l,s.length<=1000000) :
  Calls Tryz.prog 184 #[.slice A l.length c,.func (.func 152) #[] #[]] w fun e w'=>∃i:Int,e=.returned (zI i)/\decide (i≥0)=l.any (fun x=>!isName x)/\zb w w':=by
 have he:=enters_fnames;have HA:=zH hA;have HN1:=zH hn;clear hn;obtain⟨P,hP⟩:∃P:(List UInt8)->Bool,P=fun x=>!isName x:=⟨_,rfl⟩;rw[<-hP];have HP:=zH hP;clear hP hA;go_enter Tryz.func184,Tryz.ntmps184;go_wp2_with fail;go_loopw [8] (fun i wr=>∃k:Nat,k<=l.length/\i=zI k/\zb w wr/\Hid ((l.take k).any P=false)) (fun i _=>l.length-(intOf i).toNat);case atStart=>exact⟨0,by omega,rfl,zB _ _,zH (by simp)⟩
 obtain⟨k,hk,rfl,hbw,HQ⟩:=hrel;by_cases hlt:k<l.length
 ·have HN:Hid ((l.take (k+1)).any P=P l[k]):=zH (by rw[Zm hlt,List.any_append,HQ.o];simp);obtain⟨b,o,rfl,hb,hcs⟩:=HA.o (by intro e;rw[e] at hlt;simp at hlt);have e0:=(hbw.cell (p:=⟨b,_,none⟩) hb).trans (hcs k hlt);clear hcs;have CC:=zH (fnames1_any l[k] wr (HN1.o _ (Ze _)));have HPX:Hid (P l[k]=(fun x=>!isName x) l[k]):=zH (by rw[HP.o]);have hi0:=zP k;have hi1:(k:Int)<(l.length:Int):=by omega
  have HM:Hid (P l[k]=true->l.any P=true):=zH (fun h=>List.any_eq_true.2 ⟨l[k],Ze _,h⟩);simp only at HPX;rw[<-HPX.o] at CC;generalize hq:P l[k]=q at *;clear hq HPX;cases q
  ·go_wp2_with fail;refine CC.o.mono ?_;rintro e w1⟨rfl,hb1⟩;go_wp2_with fail;go_roundw;case rel=>exact⟨k+1,by omega,by go_num,hbw.trans (hb1.mono hbw.size),HN⟩
   case measure=>simp[intOf];omega
  have hany:=HM.o rfl;go_wp2_with fail;refine CC.o.mono ?_;rintro e w1⟨rfl,hb1⟩;go_wp2_with fail;go_ret;exact⟨k,rfl,by rw[hany];simp,hbw.trans (hb1.mono hbw.size)⟩
 have hany:l.any P=false:=by have:=HQ.o;rwa[List.take_of_length_le (by omega)] at this
 have HANY:=zH hany;clear hany;go_wp2_with fail;go_ret;exact⟨-1,rfl,by rw[HANY.o];decide,hbw⟩
theorem contains_fnames(l:List (List UInt8))(A:Option Addr)(c:Nat)(w:World)(hl:l.length<=1000000000)(hA:StrsAt w A l)(hn:∀s∈l,s.length<=1000000) :
  Calls Tryz.prog 151 #[.slice A l.length c,.func (.func 152) #[] #[]] w fun e w'=>e=.returned (.bool (l.any (fun x=>!isName x)))/\zb w w':=by
 have IH:=zH (index_fnames l A c w  hl hA hn);clear hA;generalize l.any (fun x=>!isName x)=q at *;go_enter Tryz.func151,Tryz.ntmps151;go_wp2_with fail;refine IH.o.mono ?_;rintro e w1⟨i,rfl,hi,hb1⟩;have HI:=zH hi;clear hi;go_wp2_with fail;go_ret;exact⟨ret_bool HI.o,hb1⟩
theorem index_fsign(l:List (Int))(A:Option Addr)(c:Nat)(w:World)(hl:l.length<=1000000000)(hA:NumsAt w A l)  :
  Calls Tryz.prog 153 #[.slice A l.length c,.func (.func 89) #[] #[]] w fun e w'=>∃i:Int,e=.returned (zI i)/\decide (i≥0)=l.any (fun x=>signBad x)/\zb w w':=by
 have he:=enters_fsign;have HA:=zH hA;obtain⟨P,hP⟩:∃P:(Int)->Bool,P=fun x=>signBad x:=⟨_,rfl⟩;rw[<-hP];have HP:=zH hP;clear hP hA;go_enter Tryz.func153,Tryz.ntmps153;go_wp2_with fail;go_loopw [8] (fun i wr=>∃k:Nat,k<=l.length/\i=zI k/\zb w wr/\Hid ((l.take k).any P=false)) (fun i _=>l.length-(intOf i).toNat);case atStart=>exact⟨0,by omega,rfl,zB _ _,zH (by simp)⟩
 obtain⟨k,hk,rfl,hbw,HQ⟩:=hrel;by_cases hlt:k<l.length
 ·have HN:Hid ((l.take (k+1)).any P=P l[k]):=zH (by rw[Zm hlt,List.any_append,HQ.o];simp);obtain⟨b,o,rfl,hb,hcs⟩:=HA.o (by intro e;rw[e] at hlt;simp at hlt);have e0:=(hbw.cell (p:=⟨b,_,none⟩) hb).trans (hcs k hlt);clear hcs;have CC:=zH (fsign_any l[k] wr);have HPX:Hid (P l[k]=(fun x=>signBad x) l[k]):=zH (by rw[HP.o]);have hi0:=zP k;have hi1:(k:Int)<(l.length:Int):=by omega
  have HM:Hid (P l[k]=true->l.any P=true):=zH (fun h=>List.any_eq_true.2 ⟨l[k],Ze _,h⟩);simp only at HPX;rw[<-HPX.o] at CC;generalize hq:P l[k]=q at *;clear hq HPX;cases q
  ·go_wp2_with fail;refine CC.o.mono ?_;rintro e w1⟨rfl,hb1⟩;go_wp2_with fail;go_roundw;case rel=>exact⟨k+1,by omega,by go_num,hbw.trans (hb1.mono hbw.size),HN⟩
   case measure=>simp[intOf];omega
  have hany:=HM.o rfl;go_wp2_with fail;refine CC.o.mono ?_;rintro e w1⟨rfl,hb1⟩;go_wp2_with fail;go_ret;exact⟨k,rfl,by rw[hany];simp,hbw.trans (hb1.mono hbw.size)⟩
 have hany:l.any P=false:=by have:=HQ.o;rwa[List.take_of_length_le (by omega)] at this
 have HANY:=zH hany;clear hany;go_wp2_with fail;go_ret;exact⟨-1,rfl,by rw[HANY.o];decide,hbw⟩
theorem contains_fsign(l:List (Int))(A:Option Addr)(c:Nat)(w:World)(hl:l.length<=1000000000)(hA:NumsAt w A l)  :
  Calls Tryz.prog 90 #[.slice A l.length c,.func (.func 89) #[] #[]] w fun e w'=>e=.returned (.bool (l.any (fun x=>signBad x)))/\zb w w':=by
 have IH:=zH (index_fsign l A c w  hl hA );clear hA;generalize l.any (fun x=>signBad x)=q at *;go_enter Tryz.func90,Tryz.ntmps90;go_wp2_with fail;refine IH.o.mono ?_;rintro e w1⟨i,rfl,hi,hb1⟩;have HI:=zH hi;clear hi;go_wp2_with fail;go_ret;exact⟨ret_bool HI.o,hb1⟩
theorem index_fbnd(l:List (Bnd))(A:Option Addr)(c:Nat)(w:World)(hl:l.length<=1000000000)(hA:BndsAt w A l)  :
  Calls Tryz.prog 183 #[.slice A l.length c,.func (.func 150) #[] #[]] w fun e w'=>∃i:Int,e=.returned (zI i)/\decide (i≥0)=l.any (fun x=>!isName x.1)/\zb w w':=by
 have he:=enters_fbnd;have HA:=zH hA;obtain⟨P,hP⟩:∃P:(Bnd)->Bool,P=fun x=>!isName x.1:=⟨_,rfl⟩;rw[<-hP];have HP:=zH hP;clear hP hA;go_enter Tryz.func183,Tryz.ntmps183;go_wp2_with fail;go_loopw [8] (fun i wr=>∃k:Nat,k<=l.length/\i=zI k/\zb w wr/\Hid ((l.take k).any P=false)) (fun i _=>l.length-(intOf i).toNat);case atStart=>exact⟨0,by omega,rfl,zB _ _,zH (by simp)⟩
 obtain⟨k,hk,rfl,hbw,HQ⟩:=hrel;by_cases hlt:k<l.length
 ·have HN:Hid ((l.take (k+1)).any P=P l[k]):=zH (by rw[Zm hlt,List.any_append,HQ.o];simp);obtain⟨b,o,rfl,hb,hcs⟩:=HA.o (by intro e;rw[e] at hlt;simp at hlt);obtain⟨v0,v1,v2,v3,d0,hn,d1,d2,d3,d4,_⟩:=hcs k hlt;have e0:=(hbw.cell (p:=⟨b,_,none⟩) hb).trans d0;have e1:=(hbw.cell (p:=⟨b,_,none⟩) hb).trans d1;have e2:=(hbw.cell (p:=⟨b,_,none⟩) hb).trans d2;have e3:=(hbw.cell (p:=⟨b,_,none⟩) hb).trans d3;have e4:=(hbw.cell (p:=⟨b,_,none⟩) hb).trans d4;clear hcs d0 d1 d2 d3 d4;have CC:=zH (fbnd1_any l[k].1 v0 v1 v2 v3 wr hn);have HPX:Hid (P l[k]=(fun x=>!isName x.1) l[k]):=zH (by rw[HP.o]);have hi0:=zP k;have hi1:(k:Int)<(l.length:Int):=by omega
  have HM:Hid (P l[k]=true->l.any P=true):=zH (fun h=>List.any_eq_true.2 ⟨l[k],Ze _,h⟩);simp only at HPX;rw[<-HPX.o] at CC;generalize hq:P l[k]=q at *;clear hq HPX;cases q
  ·go_wp2_with fail;refine CC.o.mono ?_;rintro e w1⟨rfl,hb1⟩;go_wp2_with fail;go_roundw;case rel=>exact⟨k+1,by omega,by go_num,hbw.trans (hb1.mono hbw.size),HN⟩
   case measure=>simp[intOf];omega
  have hany:=HM.o rfl;go_wp2_with fail;refine CC.o.mono ?_;rintro e w1⟨rfl,hb1⟩;go_wp2_with fail;go_ret;exact⟨k,rfl,by rw[hany];simp,hbw.trans (hb1.mono hbw.size)⟩
 have hany:l.any P=false:=by have:=HQ.o;rwa[List.take_of_length_le (by omega)] at this
 have HANY:=zH hany;clear hany;go_wp2_with fail;go_ret;exact⟨-1,rfl,by rw[HANY.o];decide,hbw⟩
theorem contains_fbnd(l:List (Bnd))(A:Option Addr)(c:Nat)(w:World)(hl:l.length<=1000000000)(hA:BndsAt w A l)  :
  Calls Tryz.prog 149 #[.slice A l.length c,.func (.func 150) #[] #[]] w fun e w'=>e=.returned (.bool (l.any (fun x=>!isName x.1)))/\zb w w':=by
 have IH:=zH (index_fbnd l A c w  hl hA );clear hA;generalize l.any (fun x=>!isName x.1)=q at *;go_enter Tryz.func149,Tryz.ntmps149;go_wp2_with fail;refine IH.o.mono ?_;rintro e w1⟨i,rfl,hi,hb1⟩;have HI:=zH hi;clear hi;go_wp2_with fail;go_ret;exact⟨ret_bool HI.o,hb1⟩
theorem index_ford1(l:List (Lfc.Ord))(A:Option Addr)(c:Nat)(w:World)(m:Nat)(B:Nat)(z:Int)(hl:l.length<=1000000000)(hA:OrdsAt w A l)(hB:zc w B 0 (zI z))(hBl:B<w.heap.size)(hsm:Lfc.Ord.sizes l<=m)
  (ih:∀(o:Lfc.Ord)(v:Value)(W:World),o.size<=m->OrdV W o v->zc W B 0 (zI z)->Calls Tryz.prog 157 #[v,.pointer (some ⟨B,0,none⟩)] W fun e w'=>e=.returned (.bool (!o.ofm (z+1)))/\zb W w') :
  Calls Tryz.prog 186 #[.slice A l.length c,.func (.func 157) #[] #[.pointer (some ⟨B,0,none⟩)]] w fun e w'=>∃i:Int,e=.returned (zI i)/\decide (i≥0)=l.any (fun x=>!x.ofm (z+1))/\zb w w':=by
 have he:=enters_ford1;have HA:=zH hA;have HB:=zH hB;have IH1:=zH ih;clear hB ih;obtain⟨P,hP⟩:∃P:(Lfc.Ord)->Bool,P=fun x=>!x.ofm (z+1):=⟨_,rfl⟩;rw[<-hP];have HP:=zH hP;clear hP hA;go_enter Tryz.func186,Tryz.ntmps186;go_wp2_with fail;go_loopw [8] (fun i wr=>∃k:Nat,k<=l.length/\i=zI k/\zb w wr/\Hid ((l.take k).any P=false)) (fun i _=>l.length-(intOf i).toNat);case atStart=>exact⟨0,by omega,rfl,zB _ _,zH (by simp)⟩
 obtain⟨k,hk,rfl,hbw,HQ⟩:=hrel;by_cases hlt:k<l.length
 ·have HN:Hid ((l.take (k+1)).any P=P l[k]):=zH (by rw[Zm hlt,List.any_append,HQ.o];simp);have hx:=(HA.o.below hbw);obtain⟨b,o,k1,a1,xs,B1,c1,rfl,hb,ht,d0,d1,d2,hcu,hB1,hT⟩:=hx.at_ hlt;have hmem:=Lfc.Ord.sizes_mem l l[k] (Ze _);clear hx hB1 ht;have CC:=zH (IH1.o l[k] _ wr (by omega) hT ((hbw.cell (p:=⟨B,0,none⟩) hBl).trans HB.o));have HPX:Hid (P l[k]=(fun x=>!x.ofm (z+1)) l[k]):=zH (by rw[HP.o]);have hi0:=zP k;have hi1:(k:Int)<(l.length:Int):=by omega
  have HM:Hid (P l[k]=true->l.any P=true):=zH (fun h=>List.any_eq_true.2 ⟨l[k],Ze _,h⟩);simp only at HPX;rw[<-HPX.o] at CC;generalize hq:P l[k]=q at *;clear hq HPX;cases q
  ·go_wp2_with fail;refine CC.o.mono ?_;rintro e w1⟨rfl,hb1⟩;go_wp2_with fail;go_roundw;case rel=>exact⟨k+1,by omega,by go_num,hbw.trans (hb1.mono hbw.size),HN⟩
   case measure=>simp[intOf];omega
  have hany:=HM.o rfl;go_wp2_with fail;refine CC.o.mono ?_;rintro e w1⟨rfl,hb1⟩;go_wp2_with fail;go_ret;exact⟨k,rfl,by rw[hany];simp,hbw.trans (hb1.mono hbw.size)⟩
 have hany:l.any P=false:=by have:=HQ.o;rwa[List.take_of_length_le (by omega)] at this
 have HANY:=zH hany;clear hany;go_wp2_with fail;go_ret;exact⟨-1,rfl,by rw[HANY.o];decide,hbw⟩
theorem contains_ford1(l:List (Lfc.Ord))(A:Option Addr)(c:Nat)(w:World)(m:Nat)(B:Nat)(z:Int)(hl:l.length<=1000000000)(hA:OrdsAt w A l)(hB:zc w B 0 (zI z))(hBl:B<w.heap.size)(hsm:Lfc.Ord.sizes l<=m)
  (ih:∀(o:Lfc.Ord)(v:Value)(W:World),o.size<=m->OrdV W o v->zc W B 0 (zI z)->Calls Tryz.prog 157 #[v,.pointer (some ⟨B,0,none⟩)] W fun e w'=>e=.returned (.bool (!o.ofm (z+1)))/\zb W w') :
  Calls Tryz.prog 156 #[.slice A l.length c,.func (.func 157) #[] #[.pointer (some ⟨B,0,none⟩)]] w fun e w'=>e=.returned (.bool (l.any (fun x=>!x.ofm (z+1))))/\zb w w':=by
 have IH:=zH (index_ford1 l A c w m B z hl hA hB hBl hsm ih);clear hA;generalize l.any (fun x=>!x.ofm (z+1))=q at *;go_enter Tryz.func156,Tryz.ntmps156;go_wp2_with fail;refine IH.o.mono ?_;rintro e w1⟨i,rfl,hi,hb1⟩;have HI:=zH hi;clear hi;go_wp2_with fail;go_ret;exact⟨ret_bool HI.o,hb1⟩
theorem ofm_false(o:Int)(k a:Int)(ps:List Lfc.Ord)(h1:k≠1)(h2:¬(k=2∨k=3)):(Lfc.Ord.node k a ps).ofm o=false:=by rw[Lfc.Ord.ofm,if_neg h1,if_neg h2]
theorem orderFormed_upto(m:Nat)(hmm:m<=1000000):∀(o:Lfc.Ord)(v:Value)(z:Int)(w:World),o.size<=m->OrdV w o v->0<=z->z<=1000 ->
  Calls Tryz.prog 95 #[v,zI z] w fun e w'=>e=.returned (.bool (o.ofm z))/\zb w w':=by
 induction m with
 |zero=>intro o v z w h _ _ _;have:=o.size_pos;omega
 |succ m ih0 =>
  intro o v z w hsz hv hz0 hz1;have ih:=ih0 (by omega);clear ih0;have hw1:IntKind.i64.wrap (z+1)=z+1:=Zi _ (by omega);have hn:∀(B:Nat)(hz2:z<127)(o:Lfc.Ord)(v:Value)(W:World),o.size<=m->OrdV W o v->W.cell? ⟨B,0,none⟩=some (zI z)->Calls Tryz.prog 157 #[v,.pointer (some ⟨B,0,none⟩)] W fun e w'=>e=.returned (.bool (!o.ofm (z+1)))/\zb W w':=by
   intro B hz2 o v w hm hv hB;obtain⟨kd,ar,ts⟩:=o;obtain⟨A,c,rfl,hc,hA⟩:=hv.open_;obtain⟨w1,hwe⟩:∃w1,w.alloc (.cells #[zI kd,zI ar,.slice A ts.length c] 40)=w1:=⟨_,rfl⟩;have b0:=zG hwe;have q1:=zQ hwe;have hBl:B<w.heap.size:=by
    rcases Nat.lt_or_ge B w.heap.size with h1 | h1
    ·exact h1
    unfold World.cell? at hB;simp only at hB;rw[Array.getElem?_eq_none h1] at hB;cases hB
   have y0:=(b0.cell (p:=⟨B,0,none⟩) hBl).trans hB;have IH:=zH (ih _ _ (z+1) w1 hm (hv.below b0) (by omega) (by omega));have x0:=zC q1 0;have x1:=zC q1 1;have x2:=zC q1 2;simp at x0 x1 x2;clear ih hv hA hB q1;generalize (Lfc.Ord.node kd ar ts).ofm (z+1)=q at *;cases q;all_goals
    go_enter Tryz.func157,Tryz.ntmps157;go_upto_region 1 with fail;clear hwe;go_wp2_with fail;refine IH.o.mono ?_;rintro e w3⟨rfl,hb1⟩;go_wp2_with fail;go_ret;exact⟨rfl,b0.trans (hb1.mono b0.size)⟩
  obtain⟨kd,ar,ts⟩:=o;obtain⟨A,c,rfl,hc,hA⟩:=hv.open_;have hsz':=hsz;simp only[Lfc.Ord.size] at hsz';have hlen:=Lfc.Ord.sizes_len ts;obtain⟨wa,hwa⟩:∃wa,w.alloc (.cells #[zI kd,zI ar,.slice A ts.length c] 40)=wa:=⟨_,rfl⟩;have ba:=zG hwa;have qa:=zQ hwa;have hsa:=eq2 (show wa.heap.size=w.heap.size+1 by rw[<-hwa];simp);obtain⟨wb,hwb⟩:∃wb,wa.alloc (.cells #[zI z] 3)=wb:=⟨_,rfl⟩;have bb:=zG hwb;have qb:=zQ hwb;have hsb:=zL qb;have b2:=ba.trans (bb.mono ba.size);have qa2:=(bb.block _ (by omega)).trans qa;have x0:=zC qa2 0;have x1:=zC qa2 1;have x2:=zC qa2 2;have x3:=zC qb 0;simp at x0 x1 x2 x3;have B2:=zH b2;have hmf:∀(fn:Fn)(first cap:Array Value)(w:World),(Instr.makeFunc fn first cap).run Tryz.prog w=.ok (.func fn first cap) w:=fun _ _ _ _=>rfl;have HC:=zH (fun hz2=>contains_ford1 ts A c wb m wa.heap.size z (by omega) (hA.below b2) x3 hsb (by omega) (hn wa.heap.size hz2));rw[Lfc.Ord.ofms_any] at HC;clear ih hn hA hv qa qb qa2 ba bb b2;by_cases hk1:kd=1
  ·subst hk1;rw[Lfc.Ord.ofm,if_pos rfl];obtain⟨p1,f1⟩:∃p,decide (ar≥1)=p:=⟨_,rfl⟩;obtain⟨p2,f2⟩:∃p,decide (ar<=64)=p:=⟨_,rfl⟩;rw[show decide (1<=ar)=p1 from f1,f2];have e3:((ts.length:Int) == 0)=decide (ts.length=0):=(by by_cases h:ts.length=0 <;> simp[h]);generalize decide (ts.length=0)=p3 at *;cases p1
   ·go_enter Tryz.func95,Tryz.ntmps95;go_upto_region 1 with fail;clear hwa hwb;go_wp2_with fail;go_ret;exact⟨rfl,B2.o⟩
   cases p2
   ·go_enter Tryz.func95,Tryz.ntmps95;go_upto_region 1 with fail;clear hwa hwb;go_wp2_with fail;go_ret;exact⟨rfl,B2.o⟩
   go_enter Tryz.func95,Tryz.ntmps95;go_upto_region 1 with fail;clear hwa hwb;go_wp2_with fail;go_ret;exact⟨rfl,B2.o⟩
  have k1:(kd == 1)=false:=by simpa using hk1
  by_cases hk:kd=2\/kd=3
  ·have HR:Hid ((Lfc.Ord.node kd ar ts).ofm z=(decide (ar=0) && decide (0<ts.length) && decide (z+1<128) && Lfc.Ord.ofms (z+1) ts)):=zH (by rw[Lfc.Ord.ofm,if_neg hk1,if_pos hk]);rw[HR.o];clear HR;have e1:(ar == 0)=decide (ar=0):=(by by_cases h:ar=0 <;> simp[h]);have e2:decide ((ts.length:Int)>0)=decide (0<ts.length):=(by by_cases h:0<ts.length <;> simp[h]);obtain⟨p3,f3⟩:∃p,decide (z+1<128)=p:=⟨_,rfl⟩;have HZ:Hid (decide (z+1<128)=true->z<127):=zH (fun h=>by have:=of_decide_eq_true h;omega);generalize decide (ar=0)=p1 at *;obtain⟨p2,f2⟩:∃p,decide (0<ts.length)=p:=⟨_,rfl⟩;rw[f2] at e2 ⊢;rw[f3];rw[f3] at HZ;generalize Lfc.Ord.ofms (z+1) ts=p4 at *;have main:∀q:Bool,(kd == 2)=q->(kd == 3)=!q->Calls Tryz.prog 95 #[.agg #[zI kd,zI ar,.slice A ts.length c],zI z] w fun e w'=>e=.returned (.bool (p1 && p2 && p3 && p4))/\zb w w':=by
    intro q k2 k3;clear hk hk1;cases q;all_goals
     cases p1
     ·go_enter Tryz.func95,Tryz.ntmps95;go_upto_region 1 with fail;clear hwa hwb;go_wp2_with fail;go_ret;exact⟨rfl,B2.o⟩
     cases p2
     ·go_enter Tryz.func95,Tryz.ntmps95;go_upto_region 1 with fail;clear hwa hwb;go_wp2_with fail;go_ret;exact⟨rfl,B2.o⟩
     cases p3
     ·go_enter Tryz.func95,Tryz.ntmps95;go_upto_region 1 with fail;clear hwa hwb;go_wp2_with fail;go_ret;exact⟨rfl,B2.o⟩
     have CC:=zH (HC.o (HZ.o rfl));clear HC HZ;cases p4;all_goals
      go_enter Tryz.func95,Tryz.ntmps95;go_upto_region 1 with fail;clear hwa hwb;go_wp2_with fail;refine CC.o.mono ?_;rintro e w3⟨rfl,hb3⟩;go_wp2_with fail;go_ret;exact⟨rfl,B2.o.trans (hb3.mono B2.o.size)⟩
   rcases hk with rfl | rfl
   ·exact main true rfl rfl
   exact main false rfl rfl
  rw[ofm_false z kd ar ts hk1 hk];have k2:(kd == 2)=false:=by simpa using fun h=>hk (Or.inl h)
  have k3:(kd == 3)=false:=by simpa using fun h=>hk (Or.inr h)
  clear HC hk hk1;go_enter Tryz.func95,Tryz.ntmps95;go_upto_region 1 with fail;clear hwa hwb;go_wp2_with fail;go_ret;exact⟨rfl,B2.o⟩
theorem ford_any(x:List UInt8 × Lfc.Ord)(v0 v1 v2:Value)(w:World)(hs:x.1.length<=1000000)(hm:x.2.size<=1000000)(hv:OrdC w x.2 v0 v1 v2):Calls Tryz.prog 155 #[.agg #[S x.1,v0,v1,v2]] w fun e w'=>e=.returned (.bool (!isName x.1 || !x.2.ofm 0))/\zb w w':=by
 obtain⟨s,o⟩:=x;simp only at hs hm hv ⊢;obtain⟨kd,ar,ts⟩:=o;obtain⟨A,c,he,hc,hA⟩:=OrdV.open_ ⟨v0,v1,v2,rfl,hv⟩;injection he with he;have he2:v0=zI kd/\v1=zI ar/\v2=.slice A ts.length c:=by simpa using he
 obtain⟨rfl,rfl,rfl⟩:=he2;obtain⟨w1,hw1⟩:∃w1,w.alloc (.cells #[S s,zI kd,zI ar,.slice A ts.length c] 74)=w1:=⟨_,rfl⟩;have b1:=zG hw1;have q1:=zQ hw1;have x0:=zC q1 0;have x1:=zC q1 1;have x2:=zC q1 2;have x3:=zC q1 3;simp at x0 x1 x2 x3;have CN:=zH (fun W=>isName_any s W (by omega));have CO:=zH (orderFormed_upto 1000000 (zN _) (.node kd ar ts) _ 0 w1 hm ((OrdV.below ⟨_,_,_,rfl,hv⟩) b1) (by omega) (by omega));clear q1 hv hA he;generalize isName s=p at *;generalize (Lfc.Ord.node kd ar ts).ofm 0=q at *;cases p
 ·go_enter Tryz.func155,Tryz.ntmps155;go_upto_region 1 with fail;clear hw1;go_wp2_with fail;refine(CN.o _).mono ?_;rintro e w1⟨rfl,rfl⟩;go_wp2_with fail;go_ret;exact⟨rfl,b1⟩
 cases q;all_goals
  go_enter Tryz.func155,Tryz.ntmps155;go_upto_region 1 with fail;clear hw1;go_wp2_with fail;refine(CN.o _).mono ?_;rintro e w1⟨rfl,rfl⟩;go_wp2_with fail;refine CO.o.mono ?_;rintro e w3⟨rfl,hb3⟩;go_wp2_with fail;go_ret;exact⟨rfl,b1.trans (hb3.mono b1.size)⟩
theorem index_ford(l:List (List UInt8 × Lfc.Ord))(A:Option Addr)(c:Nat)(w:World)(hl:l.length<=1000000000)(hA:FOrdsAt w A l)(hsm:∀x∈l,x.2.size<=1000000) :
  Calls Tryz.prog 185 #[.slice A l.length c,.func (.func 155) #[] #[]] w fun e w'=>∃i:Int,e=.returned (zI i)/\decide (i≥0)=l.any (fun x=>!isName x.1 || !x.2.ofm 0)/\zb w w':=by
 have he:=enters_ford;have HA:=zH hA;have HS1:=zH hsm;clear hsm;obtain⟨P,hP⟩:∃P:(List UInt8 × Lfc.Ord)->Bool,P=fun x=>!isName x.1 || !x.2.ofm 0:=⟨_,rfl⟩;rw[<-hP];have HP:=zH hP;clear hP hA;go_enter Tryz.func185,Tryz.ntmps185;go_wp2_with fail;go_loopw [8] (fun i wr=>∃k:Nat,k<=l.length/\i=zI k/\zb w wr/\Hid ((l.take k).any P=false)) (fun i _=>l.length-(intOf i).toNat);case atStart=>exact⟨0,by omega,rfl,zB _ _,zH (by simp)⟩
 obtain⟨k,hk,rfl,hbw,HQ⟩:=hrel;by_cases hlt:k<l.length
 ·have HN:Hid ((l.take (k+1)).any P=P l[k]):=zH (by rw[Zm hlt,List.any_append,HQ.o];simp);obtain⟨b,o,rfl,hb,hcs⟩:=HA.o (by intro e;rw[e] at hlt;simp at hlt);obtain⟨v0,v1,v2,e0,hn,e1,e2,e3,ho⟩:=(hcs k hlt).below hbw hb;clear hcs;have CC:=zH (ford_any l[k] v0 v1 v2 wr hn (HS1.o _ (Ze _)) ho);have HPX:Hid (P l[k]=(fun x=>!isName x.1 || !x.2.ofm 0) l[k]):=zH (by rw[HP.o]);have hi0:=zP k;have hi1:(k:Int)<(l.length:Int):=by omega
  have HM:Hid (P l[k]=true->l.any P=true):=zH (fun h=>List.any_eq_true.2 ⟨l[k],Ze _,h⟩);simp only at HPX;rw[<-HPX.o] at CC;generalize hq:P l[k]=q at *;clear hq HPX;cases q
  ·go_wp2_with fail;refine CC.o.mono ?_;rintro e w1⟨rfl,hb1⟩;go_wp2_with fail;go_roundw;case rel=>exact⟨k+1,by omega,by go_num,hbw.trans (hb1.mono hbw.size),HN⟩
   case measure=>simp[intOf];omega
  have hany:=HM.o rfl;go_wp2_with fail;refine CC.o.mono ?_;rintro e w1⟨rfl,hb1⟩;go_wp2_with fail;go_ret;exact⟨k,rfl,by rw[hany];simp,hbw.trans (hb1.mono hbw.size)⟩
 have hany:l.any P=false:=by have:=HQ.o;rwa[List.take_of_length_le (by omega)] at this
 have HANY:=zH hany;clear hany;go_wp2_with fail;go_ret;exact⟨-1,rfl,by rw[HANY.o];decide,hbw⟩
theorem contains_ford(l:List (List UInt8 × Lfc.Ord))(A:Option Addr)(c:Nat)(w:World)(hl:l.length<=1000000000)(hA:FOrdsAt w A l)(hsm:∀x∈l,x.2.size<=1000000) :
  Calls Tryz.prog 154 #[.slice A l.length c,.func (.func 155) #[] #[]] w fun e w'=>e=.returned (.bool (l.any (fun x=>!isName x.1 || !x.2.ofm 0)))/\zb w w':=by
 have IH:=zH (index_ford l A c w  hl hA hsm);clear hA;generalize l.any (fun x=>!isName x.1 || !x.2.ofm 0)=q at *;go_enter Tryz.func154,Tryz.ntmps154;go_wp2_with fail;refine IH.o.mono ?_;rintro e w1⟨i,rfl,hi,hb1⟩;have HI:=zH hi;clear hi;go_wp2_with fail;go_ret;exact⟨ret_bool HI.o,hb1⟩
theorem fnames_any(l:List (List UInt8))(A:Option Addr)(c:Nat)(w:World)(hl:l.length<=1000000000)(hA:StrsAt w A l)(hn:∀s∈l,s.length<=1000000):Calls Tryz.prog 87 #[.slice A l.length c] w fun e w'=>e=.returned (.bool (namesF' l))/\zb w w':=by
 have C:=zH (contains_fnames l A c w hl hA hn);clear hA;unfold namesF';generalize l.any (fun x=>!isName x)=q at *;cases q;all_goals
  go_enter Tryz.func87,Tryz.ntmps87;go_wp2_with fail;refine C.o.mono ?_;rintro e w1⟨rfl,hb⟩;go_wp2_with fail;go_ret;exact⟨rfl,hb⟩
theorem fbnds_any(l:List (Bnd))(A:Option Addr)(c:Nat)(w:World)(hl:l.length<=1000000000)(hA:BndsAt w A l) :Calls Tryz.prog 85 #[.slice A l.length c] w fun e w'=>e=.returned (.bool (bndsF l))/\zb w w':=by
 have C:=zH (contains_fbnd l A c w hl hA);clear hA;unfold bndsF;generalize l.any (fun x=>!isName x.1)=q at *;cases q;all_goals
  go_enter Tryz.func85,Tryz.ntmps85;go_wp2_with fail;refine C.o.mono ?_;rintro e w1⟨rfl,hb⟩;go_wp2_with fail;go_ret;exact⟨rfl,hb⟩
theorem fords_any(l:List (List UInt8 × Lfc.Ord))(A:Option Addr)(c:Nat)(w:World)(hl:l.length<=1000000000)(hA:FOrdsAt w A l)(hsm:∀x∈l,x.2.size<=1000000):Calls Tryz.prog 93 #[.slice A l.length c] w fun e w'=>e=.returned (.bool (fordsF l))/\zb w w':=by
 have C:=zH (contains_ford l A c w hl hA hsm);clear hA;unfold fordsF;generalize l.any (fun x=>!isName x.1 || !x.2.ofm 0)=q at *;have e2:decide ((l.length:Int)>0)=decide (0<l.length):=by by_cases h:0<l.length <;> simp[h]
 obtain⟨p,f2⟩:∃p,decide (0<l.length)=p:=⟨_,rfl⟩;rw[f2] at e2 ⊢;cases p
 ·go_enter Tryz.func93,Tryz.ntmps93;go_wp2_with fail;go_ret;exact⟨rfl,zB _ _⟩
 cases q;all_goals
  go_enter Tryz.func93,Tryz.ntmps93;go_wp2_with fail;refine C.o.mono ?_;rintro e w1⟨rfl,hb⟩;go_wp2_with fail;go_ret;exact⟨rfl,hb⟩
end Go.Proofs.YthajalgkjonaaaaGreatDoor
