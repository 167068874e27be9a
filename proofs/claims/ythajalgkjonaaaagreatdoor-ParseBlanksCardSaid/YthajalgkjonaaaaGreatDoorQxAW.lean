/- Parts of the proof that no input makes the law false: OrRow,PaOdF,PaBns,PaBnr,PaOrI. -/
import Derived.Maps.AppendAt
import Derived.Test.YthajalgkjonaaaaGreatDoorQxAG
import Derived.Test.YthajalgkjonaaaaGreatDoorQxAH
import Derived.Test.YthajalgkjonaaaaGreatDoorQxAO
import Derived.Test.YthajalgkjonaaaaGreatDoorQxAQ
import Derived.Test.YthajalgkjonaaaaGreatDoorQxAR
import Derived.Test.YthajalgkjonaaaaGreatDoorQxAU
import Derived.Test.YthajalgkjonaaaaGreatDoorQxAV
set_option linter.unusedVariables false
set_option linter.unusedSimpArgs false
namespace Go.Proofs.YthajalgkjonaaaaGreatDoor
open Go.RowKit
mutual
def OrdP(q:Nat→Prop)(w:World):Lfc.Ord→Value→Value→Value→Prop
 |.node k a ts,v0,v1,v2=>v0=.int .i64 k∧v1=.int .i64 a∧∃A c,v2=.slice A ts.length c∧ts.length≤c∧(ts≠[]→∃b o,A=some ⟨b,o,none⟩∧b<w.heap.size∧q b∧OrdsP q w b ts o)
def OrdsP(q:Nat→Prop)(w:World)(b:Nat):List Lfc.Ord→Nat→Prop
 |[],_=>True
 |t :: r,o=>(∃v0 v1 v2,w.cell? ⟨b,o,none⟩=some v0∧w.cell? ⟨b,o+1,none⟩=some v1∧w.cell? ⟨b,o+2,none⟩=some v2∧OrdP q w t v0 v1 v2)∧OrdsP q w b r (o+3)
end
mutual
theorem OrdP.keep{q q':Nat→Prop}{w w':World}(hk:∀b,q b→b<w.heap.size→w'.heap[b]?=w.heap[b]?)(hs:w.heap.size≤w'.heap.size)(hq:∀b,b<w.heap.size→q b→q' b):∀(t:Lfc.Ord)(v0 v1 v2:Value),OrdP q w t v0 v1 v2→OrdP q' w' t v0 v1 v2
 |.node k a ts,v0,v1,v2,h=>by
  rw[OrdP] at h ⊢
  obtain⟨h0,h1,A,c,h3,h4,h5⟩:=h
  refine⟨h0,h1,A,c,h3,h4,fun hne=>?_⟩
  obtain⟨b,o,hA,hlt,hqb,hts⟩:=h5 hne
  exact⟨b,o,hA,Nat.lt_of_lt_of_le hlt hs,hq b hlt hqb,OrdsP.keep hk hs hq ts b o hlt hqb hts⟩
theorem OrdsP.keep{q q':Nat→Prop}{w w':World}(hk:∀b,q b→b<w.heap.size→w'.heap[b]?=w.heap[b]?)(hs:w.heap.size≤w'.heap.size)(hq:∀b,b<w.heap.size→q b→q' b):∀(ts:List Lfc.Ord)(b o:Nat),b<w.heap.size→q b→OrdsP q w b ts o→OrdsP q' w' b ts o
 |[],_,_,_,_,_=>by rw[OrdsP];trivial
 |t :: r,b,o,hlt,hb,h=>by
  rw[OrdsP] at h ⊢
  obtain⟨⟨v0,v1,v2,c0,c1,c2,ht⟩,hr⟩:=h
  have hc:=fun j=>World.cell?_of_block (a:=⟨b,j,none⟩) (hk b hb hlt)
  exact⟨⟨v0,v1,v2,(hc _).trans c0,(hc _).trans c1,(hc _).trans c2,OrdP.keep hk hs hq t v0 v1 v2 ht⟩,OrdsP.keep hk hs hq r b (o+3) hlt hb hr⟩
end
mutual
theorem OrdP.toC{q:Nat→Prop}{w:World}:∀(t:Lfc.Ord)(v0 v1 v2:Value),OrdP q w t v0 v1 v2→OrdC w t v0 v1 v2
 |.node k a ts,v0,v1,v2,h=>by
  rw[OrdP] at h
  rw[OrdC]
  obtain⟨h0,h1,A,c,h3,h4,h5⟩:=h
  refine⟨h0,h1,A,c,h3,h4,fun hne=>?_⟩
  obtain⟨b,o,hA,hlt,hqb,hts⟩:=h5 hne
  exact⟨b,o,hA,hlt,OrdsP.toC ts b o hts⟩
theorem OrdsP.toC{q:Nat→Prop}{w:World}:∀(ts:List Lfc.Ord)(b o:Nat),OrdsP q w b ts o→OrdsO w b ts o
 |[],_,_,_=>by rw[OrdsO];trivial
 |t :: r,b,o,h=>by
  rw[OrdsP] at h
  rw[OrdsO]
  obtain⟨⟨v0,v1,v2,c0,c1,c2,ht⟩,hr⟩:=h
  exact⟨⟨v0,v1,v2,c0,c1,c2,OrdP.toC t v0 v1 v2 ht⟩,OrdsP.toC r b (o+3) hr⟩
end
def ORow(q:Nat→Prop)(w:World):List Lfc.Ord→List Value→Prop
 |[],xs=>xs=[]
 |t :: r,xs=>∃v0 v1 v2 ys,xs=v0 :: v1 :: v2 :: ys∧OrdP q w t v0 v1 v2∧ORow q w r ys
theorem ORow.keep{q q':Nat→Prop}{w w':World}(hk:∀b,q b→b<w.heap.size→w'.heap[b]?=w.heap[b]?)(hs:w.heap.size≤w'.heap.size)(hq:∀b,b<w.heap.size→q b→q' b):∀{ts:List Lfc.Ord}{xs:List Value},ORow q w ts xs→ORow q' w' ts xs
 |[],xs,h=>by rw[ORow] at h ⊢;exact h
 |t :: r,xs,h=>by
  rw[ORow] at h ⊢
  obtain⟨v0,v1,v2,ys,rfl,ht,hr⟩:=h
  exact⟨v0,v1,v2,ys,rfl,OrdP.keep hk hs hq t _ _ _ ht,hr.keep hk hs hq⟩
theorem ORow.append{q:Nat→Prop}{w:World}{us:List Lfc.Ord}{zs:List Value}(hz:ORow q w us zs):∀{ts:List Lfc.Ord}{xs:List Value},ORow q w ts xs→ORow q w (ts++us) (xs++zs)
 |[],xs,h=>by rw[ORow] at h;subst h;exact hz
 |t :: r,xs,h=>by
  rw[ORow] at h
  obtain⟨v0,v1,v2,ys,rfl,ht,hr⟩:=h
  rw[List.cons_append,ORow]
  exact⟨v0,v1,v2,ys++zs,by simp,ht,ORow.append hz hr⟩
theorem ORow.one{q:Nat→Prop}{w:World}{t:Lfc.Ord}{v0 v1 v2:Value}(h:OrdP q w t v0 v1 v2):ORow q w [t] [v0,v1,v2]:=⟨v0,v1,v2,[],rfl,h,rfl⟩
def OCellsAt(w:World)(b o:Nat)(xs:List Value):Prop:=∀j u,xs[j]?=some u→w.cell? ⟨b,o+j,none⟩=some u
theorem ORow.lie{q:Nat→Prop}{w:World}{b:Nat}:∀{ts:List Lfc.Ord}{xs:List Value}{o:Nat},ORow q w ts xs→OCellsAt w b o xs→OrdsP q w b ts o
 |[],_,_,_,_=>by rw[OrdsP];trivial
 |t :: r,xs,o,h,hc=>by
  rw[ORow] at h
  obtain⟨v0,v1,v2,ys,rfl,ht,hr⟩:=h
  rw[OrdsP]
  refine⟨⟨v0,v1,v2,hc 0 _ rfl,hc 1 _ rfl,hc 2 _ rfl,ht⟩,hr.lie fun j u hj=>?_⟩
  have:=hc (j+3) u (by simpa using hj)
  rw[show o+3+j=o+(j+3) by omega]
  exact this
theorem ocell_add(b j:Nat):(⟨b,0,none⟩:Addr).add j=⟨b,j,none⟩:=by
 unfold Addr.add;split <;> simp_all
theorem own_cellsO{w:World}{base:Nat}{e:TypeId}{size n g cap:Nat}{xs:List Value}(h:w.ownsRow base e size (.slice (some ⟨g,0,none⟩) n cap) n xs):OCellsAt w g 0 xs:=by
 intro j u hj
 have:=h.cells (g:=g) rfl j u hj
 rw[ocell_add] at this
 simpa using this
def OrdsAtP(q:Nat→Prop)(w:World)(A:Option Addr)(ts:List Lfc.Ord):Prop:=ts≠[]→∃b o,A=some ⟨b,o,none⟩∧b<w.heap.size∧q b∧OrdsP q w b ts o
theorem OrdsAtP.keep{q q':Nat→Prop}{w w':World}{A:Option Addr}{ts:List Lfc.Ord}(hk:∀b,q b→b<w.heap.size→w'.heap[b]?=w.heap[b]?)(hs:w.heap.size≤w'.heap.size)(hq:∀b,b<w.heap.size→q b→q' b)(h:OrdsAtP q w A ts):OrdsAtP q' w' A ts:=fun hne=>by
 obtain⟨b,o,hA,hlt,hb,h⟩:=h hne
 exact⟨b,o,hA,Nat.lt_of_lt_of_le hlt hs,hq b hlt hb,OrdsP.keep hk hs hq ts b o hlt hb h⟩
def OrdVP(q:Nat→Prop)(w:World)(t:Lfc.Ord)(v:Value):Prop:=∃v0 v1 v2,v=.agg #[v0,v1,v2]∧OrdP q w t v0 v1 v2
theorem OrdVP.toV{q:Nat→Prop}{w:World}{t:Lfc.Ord}{v:Value}(h:OrdVP q w t v):OrdV w t v:=by
 obtain⟨v0,v1,v2,rfl,h⟩:=h
 exact⟨v0,v1,v2,rfl,OrdP.toC _ _ _ _ h⟩
theorem OrdVP.keep{q q':Nat→Prop}{w w':World}(hk:∀b,q b→b<w.heap.size→w'.heap[b]?=w.heap[b]?)(hs:w.heap.size≤w'.heap.size)(hq:∀b,b<w.heap.size→q b→q' b){t:Lfc.Ord}{v:Value}(h:OrdVP q w t v):OrdVP q' w' t v:=by
 obtain⟨v0,v1,v2,rfl,h⟩:=h
 exact⟨v0,v1,v2,rfl,OrdP.keep hk hs hq _ _ _ _ h⟩
theorem OrdVP.mk{q:Nat→Prop}{w:World}{k a:Int}{ts:List Lfc.Ord}{A:Option Addr}{c:Nat}(hc:ts.length≤c)(h:OrdsAtP q w A ts):OrdVP q w (.node k a ts) (.agg #[.int .i64 k,.int .i64 a,.slice A ts.length c]) :=
 ⟨_,_,_,rfl,by rw[OrdP];exact⟨rfl,rfl,A,c,rfl,hc,h⟩⟩
theorem OrdVP.open_{q:Nat→Prop}{w:World}{k a:Int}{ts:List Lfc.Ord}{v:Value}(h:OrdVP q w (.node k a ts) v):∃A c,v=.agg #[.int .i64 k,.int .i64 a,.slice A ts.length c]∧OrdP q w (.node k a ts) (.int .i64 k) (.int .i64 a) (.slice A ts.length c):=by
 obtain⟨v0,v1,v2,rfl,h⟩:=h
 have h':=h
 rw[OrdP] at h
 obtain⟨rfl,rfl,A,c,rfl,_⟩:=h
 exact⟨A,c,rfl,h'⟩
theorem ord_size:(Tryz.prog.info? 40).map (·.size)=some 3:=by kernel_rfl
end Go.Proofs.YthajalgkjonaaaaGreatDoor
namespace Go.Proofs.YthajalgkjonaaaaGreatDoor
open Go.RowKit
def FRow(q:Nat→Prop)(w:World):List (List UInt8 × Lfc.Ord)→List Value→Prop
 |[],xs=>xs=[]
 |x :: r,xs=>∃v0 v1 v2 ys,xs=S x.1 :: v0 :: v1 :: v2 :: ys∧x.1.length≤1000000∧OrdP q w x.2 v0 v1 v2∧FRow q w r ys
theorem FRow.keep{q q':Nat→Prop}{w w':World}(hk:∀b,q b→b<w.heap.size→w'.heap[b]?=w.heap[b]?)(hs:w.heap.size≤w'.heap.size)(hq:∀b,b<w.heap.size→q b→q' b):∀{l:List (List UInt8 × Lfc.Ord)}{xs:List Value},FRow q w l xs→FRow q' w' l xs
 |[],xs,h=>by rw[FRow] at h ⊢;exact h
 |x :: r,xs,h=>by
  rw[FRow] at h ⊢
  obtain⟨v0,v1,v2,ys,rfl,hn,ht,hr⟩:=h
  exact⟨v0,v1,v2,ys,rfl,hn,OrdP.keep hk hs hq _ _ _ _ ht,hr.keep hk hs hq⟩
theorem FRow.append{q:Nat→Prop}{w:World}{m:List (List UInt8 × Lfc.Ord)}{ys:List Value}(h':FRow q w m ys):∀{l:List (List UInt8 × Lfc.Ord)}{xs:List Value},FRow q w l xs→FRow q w (l++m) (xs++ys)
 |[],xs,h=>by rw[FRow] at h;subst h;exact h'
 |x :: r,xs,h=>by
  rw[FRow] at h
  obtain⟨v0,v1,v2,zs,rfl,hn,ht,hr⟩:=h
  rw[List.cons_append,FRow]
  exact⟨v0,v1,v2,zs++ys,rfl,hn,ht,FRow.append h' hr⟩
theorem FRow.one{q:Nat→Prop}{w:World}{x:List UInt8 × Lfc.Ord}{v0 v1 v2:Value}(hn:x.1.length≤1000000)(h:OrdP q w x.2 v0 v1 v2):FRow q w [x] [S x.1,v0,v1,v2]:=by
 rw[FRow]
 exact⟨v0,v1,v2,[],rfl,hn,h,by rw[FRow]⟩
theorem FRow.lie{q:Nat→Prop}{w:World}{g:Nat}:∀{l:List (List UInt8 × Lfc.Ord)}{xs:List Value}{o:Nat},FRow q w l xs→(∀k u,xs[k]?=some u→w.cell? ⟨g,o+k,none⟩=some u)→∀i(h:i<l.length),FOrdC w g (o+i*4) l[i]
 |[],xs,o,h,hc=>fun i hi=>absurd hi (Nat.not_lt_zero _)
 | x :: r, xs, o, h, hc => by
  rw[FRow] at h
  obtain⟨v0,v1,v2,ys,rfl,hn,ht,hr⟩:=h
  have hrec:=FRow.lie (g:=g) (o:=o+4) hr (fun k u hu=>by
   have:=hc (k+4) u (by simpa using hu)
   rwa[show o+(k+4)=o+4+k by omega] at this)
  intro i hi
  match i,hi with
  |0,_=>exact⟨v0,v1,v2,by simpa using hc 0 _ rfl,hn,hc 1 _ rfl,hc 2 _ rfl,hc 3 _ rfl,OrdP.toC _ _ _ _ ht⟩
  |i+1,hi =>
   have:=hrec i (by simpa using hi)
   rwa[show o+4+i*4=o+(i+1)*4 by omega] at this
structure OdF(w0 W:World)(P I base:Nat)(G:Hd)(p:Lfc.PE)(k:Nat)(cs:Array Value)(l:List (List UInt8 × Lfc.Ord))(A:Option Addr)(c:Nat)(xs:List Value):Prop where
 ls:LsF w0 W P I base G p k cs 13 74 4 l.length xs A c
 row:FRow (fun b=>base≤b∧some b≠(Value.slice A l.length c).ownBlock) W l xs
theorem OdF.call{w0 W W1:World}{P I base:Nat}{G:Hd}{p:Lfc.PE}{k k1:Nat}{cs:Array Value}{l:List (List UInt8 × Lfc.Ord)}{A:Option Addr}{c:Nat}{xs:List Value}(h:OdF w0 W P I base G p k cs l A c xs)(hP:P<base)(g1:PW W1 P G p k1)(o1:Oth P W W1):OdF w0 W1 P I base G p k1 cs l A c xs :=
 ⟨h.ls.call hP g1 o1,h.row.keep (fun b hb hlt=>o1.block b hlt (fun e=>by have:=Option.some.inj e;have:=hb.1;omega)) o1.size (fun _ _ h=>h)⟩
theorem OdF.push{w0 W W1 w2 w3:World}{P I base:Nat}{G:Hd}{p:Lfc.PE}{k k1:Nat}{cs:Array Value}{l:List (List UInt8 × Lfc.Ord)}{A A':Option Addr}{c c':Nat}{xs:List Value}{n:List UInt8}{u:Lfc.Ord}{v0 v1 v2:Value}(h:OdF w0 W P I base G p k cs l A c xs)
  (hP:P<base) (hI:I<base) (hb:w0.heap.size≤base) (hbW:base≤W.heap.size) (g1:PW W1 P G p k1) (o1:Oth P W W1) (b2:Below W1.heap.size W1 w2) (hn:n.length≤1000000) (ht:OrdP (fun b=>W.heap.size≤b) W1 u v0 v1 v2)
  (hown3:w3.ownsRow base 74 4 (.slice A' (l.length+1) c') (l.length+1) (xs++[S n,v0,v1,v2])) (hg:w2.grownBy w3 (Value.slice A l.length c).ownBlock) (hl:(Value.slice A' (l.length+1) c').ownBlock=(Value.slice A l.length c).ownBlock∨(Value.slice A' (l.length+1) c').ownBlock=some w2.heap.size) :
  (w3.cell? ⟨I,13,none⟩=some (.slice A l.length c)∧w3.frozen? ⟨I,13,none⟩=false)∧OdF w0 (w3.setCell ⟨I,13,none⟩ (.slice A' (l.length+1) c')) P I base G p k1 cs (l++[(n,u)]) A' c' (xs++[S n,v0,v1,v2])∧W1.heap.size≤(w3.setCell ⟨I,13,none⟩ (.slice A' (l.length+1) c')).heap.size:=by
 obtain⟨r1,r2,r3⟩:=h.ls.push (by decide) hP hI hb g1 o1 b2 hown3 hg hl
 have hv:∀b,(Value.slice A l.length c).ownBlock=some b→base≤b∧b<W.heap.size:=fun b hb=>h.ls.own.lt b hb
 have hs1:=o1.size
 have hl4:(l++[(n,u)]).length=l.length+1:=by simp
 refine⟨r1,⟨by rw[hl4];exact r2,?_⟩,r3.size⟩
 rw[hl4]
 refine FRow.append (FRow.one (x:=(n,u)) hn (OrdP.keep (w:=W1) (fun b hb hlt=>r3.keep b hlt (by omega) (fun e=>by have:=(hv b e.symm).2;omega)) r3.size (fun b hlt hb=>⟨by omega,r3.out b hlt (fun e=>by have:=(hv b e.symm).2;omega)⟩) _ _ _ _ ht)) ?_
 exact h.row.keep (fun b hb hlt=>(r3.keep b (by omega) (by have:=hb.1;omega) hb.2).trans (o1.block b hlt (fun e=>by have:=Option.some.inj e;have:=hb.1;omega))) (Nat.le_trans hs1 r3.size) (fun b hlt hb=>⟨hb.1,r3.out b (by omega) hb.2⟩)
theorem OdF.stays{w0 W:World}{P I base lo:Nat}{G:Hd}{p:Lfc.PE}{k:Nat}{cs:Array Value}{l:List (List UInt8 × Lfc.Ord)}{A:Option Addr}{c:Nat}{xs:List Value}(h:OdF w0 W P I base G p k cs l A c xs)(hlo:lo≤base):Stays (fun b=>lo≤b) W (fun V=>FOrdsAt V A l∧l.length≤c):=fun V h1 h2=>by
 have hown:=own_stays h.ls.own hlo V h1 h2
 have hrow:=h.row.keep (w':=V) (q':=fun _=>True) (fun b hb hlt=>h2 b (Nat.le_trans hlo hb.1) hlt) h1 (fun _ _ _=>trivial)
 refine⟨fun hne=>?_,own_cap hown⟩
 rcases hown.2 with⟨_,h0⟩ | ⟨g,cap,cur,hv,hbg,hg,_⟩
 ·exact absurd (List.length_eq_zero_iff.1 h0) hne
 ·have hv':=hv
  injection hv' with e1 _ e3
  subst e1 e3
  refine⟨g,0,rfl,lt_of_block hg,hrow.lie fun k u hu=>?_⟩
  have:=hown.cells (g:=g) rfl k u hu
  rwa[show(⟨g,0,none⟩:Addr).add k=⟨g,0+k,none⟩ by unfold Addr.add;split <;> simp_all] at this
theorem OdF.start{w0 W:World}{P I base:Nat}{G:Hd}{p:Lfc.PE}{k:Nat}{cs:Array Value}(h:ItF w0 W P I G p k cs)(hc:cs.setIfInBounds 13 (.slice none 0 0)=cs):OdF w0 W P I base G p k cs [] none 0 []:=⟨LsF.start h hc,by rw[FRow]⟩
theorem ford_infoP:∃i,Tryz.prog.info? 74=some i∧i.zero=some (.agg #[S [],.int .i64 0,.int .i64 0,.slice none 0 0])∧i.size=4∧i.bytes=56:=by
 obtain⟨i0,hi,hz0,hz1,hz2⟩:=info_parts (show(Tryz.prog.info? 74).map (fun i=>(i.zero,i.size,i.bytes))=some (some (.agg #[S [],.int .i64 0,.int .i64 0,.slice none 0 0]),4,56) by kernel_rfl)
 exact⟨i0,hi,hz0,hz1,hz2⟩
end Go.Proofs.YthajalgkjonaaaaGreatDoor
namespace Go.Proofs.YthajalgkjonaaaaGreatDoor
open Go.RowKit
def BRow(q:Nat→Prop)(w:World):List Lfc.Bnd→List Value→Prop
 |[],xs=>xs=[]
 |x :: r,xs=>∃v0 v1 v2 v3 ys,xs=S x.1 :: v0 :: v1 :: v2 :: v3 :: ys∧x.1.length≤1000000∧TreeP q w x.2 v0 v1 v2 v3∧BRow q w r ys
theorem BRow.keep{q q':Nat→Prop}{w w':World}(hk:∀b,q b→b<w.heap.size→w'.heap[b]?=w.heap[b]?)(hs:w.heap.size≤w'.heap.size)(hq:∀b,b<w.heap.size→q b→q' b):∀{l:List Lfc.Bnd}{xs:List Value},BRow q w l xs→BRow q' w' l xs
 |[],xs,h=>by rw[BRow] at h ⊢;exact h
 |x :: r,xs,h=>by
  rw[BRow] at h ⊢
  obtain⟨v0,v1,v2,v3,ys,rfl,hn,ht,hr⟩:=h
  exact⟨v0,v1,v2,v3,ys,rfl,hn,TreeP.keep hk hs hq _ _ _ _ _ ht,hr.keep hk hs hq⟩
theorem BRow.append{q:Nat→Prop}{w:World}{m:List Lfc.Bnd}{ys:List Value}(h':BRow q w m ys):∀{l:List Lfc.Bnd}{xs:List Value},BRow q w l xs→BRow q w (l++m) (xs++ys)
 |[],xs,h=>by rw[BRow] at h;subst h;exact h'
 |x :: r,xs,h=>by
  rw[BRow] at h
  obtain⟨v0,v1,v2,v3,zs,rfl,hn,ht,hr⟩:=h
  rw[List.cons_append,BRow]
  exact⟨v0,v1,v2,v3,zs++ys,rfl,hn,ht,BRow.append h' hr⟩
theorem BRow.one{q:Nat→Prop}{w:World}{x:Lfc.Bnd}{v0 v1 v2 v3:Value}(hn:x.1.length≤1000000)(h:TreeP q w x.2 v0 v1 v2 v3):BRow q w [x] [S x.1,v0,v1,v2,v3]:=by
 rw[BRow]
 exact⟨v0,v1,v2,v3,[],rfl,hn,h,by rw[BRow]⟩
theorem BRow.len{q:Nat→Prop}{w:World}:∀{l:List Lfc.Bnd}{xs:List Value},BRow q w l xs→xs.length=5*l.length
 |[],xs,h=>by rw[BRow] at h;subst h;rfl
 |x :: r,xs,h=>by
  rw[BRow] at h
  obtain⟨v0,v1,v2,v3,ys,rfl,_,_,hr⟩:=h
  have:=hr.len
  simp;omega
theorem BRow.lie{q:Nat→Prop}{w:World}{g:Nat}:∀{l:List Lfc.Bnd}{xs:List Value}{o:Nat},BRow q w l xs→(∀k u,xs[k]?=some u→w.cell? ⟨g,o+k,none⟩=some u)→∀i(h:i<l.length),BndC w g (o+i*5) l[i]
 |[],xs,o,h,hc=>fun i hi=>absurd hi (Nat.not_lt_zero _)
 | x :: r, xs, o, h, hc => by
  rw[BRow] at h
  obtain⟨v0,v1,v2,v3,ys,rfl,hn,ht,hr⟩:=h
  have hrec:=BRow.lie (g:=g) (o:=o+5) hr (fun k u hu=>by
   have:=hc (k+5) u (by simpa using hu)
   rwa[show o+(k+5)=o+5+k by omega] at this)
  intro i hi
  match i,hi with
  |0,_=>exact⟨v0,v1,v2,v3,by simpa using hc 0 _ rfl,hn,hc 1 _ rfl,hc 2 _ rfl,hc 3 _ rfl,hc 4 _ rfl,TreeP.toC _ _ _ _ _ ht⟩
  |i+1,hi =>
   have:=hrec i (by simpa using hi)
   rwa[show o+5+i*5=o+(i+1)*5 by omega] at this
structure BnI(w:World)(P base:Nat)(G:Hd)(p:Lfc.PE)(k:Nat)(l:List Lfc.Bnd)(A:Option Addr)(c:Nat)(xs:List Value)(W:World):Prop where
 pw:PW W P G p k
 le:k≤p.toks.length
 oth:Oth P w W
 own:W.ownsRow w.heap.size 72 5 (.slice A l.length c) l.length xs
 row:BRow (fun b=>w.heap.size≤b∧some b≠(Value.slice A l.length c).ownBlock) W l xs
 pos:w.heap.size=base
theorem BnI.step{w W W':World}{P base:Nat}{G:Hd}{p:Lfc.PE}{k k':Nat}{l:List Lfc.Bnd}{A:Option Addr}{c:Nat}{xs:List Value}(h:BnI w P base G p k l A c xs W)(hP:P<w.heap.size)(h':PW W' P G p k')(hk:k'≤p.toks.length)(o:Oth P W W'):BnI w P base G p k' l A c xs W':=by
 refine⟨h',hk,h.oth.trans o,h.own.kept o (Or.inr (fun e=>by have:=(h.own.lt P e).1;omega)),?_,h.pos⟩
 exact h.row.keep (fun b hb hlt=>o.block b hlt (fun e=>by have:=Option.some.inj e;have:=hb.1;omega)) o.size (fun _ _ h=>h)
theorem BnI.push{w W w1 w2 w3:World}{P base k0 k k1:Nat}{G:Hd}{p:Lfc.PE}{l:List Lfc.Bnd}{A A':Option Addr}{c c':Nat}{xs:List Value}{n:List UInt8}{u:Lfc.Raw}{v0 v1 v2 v3:Value}(h:BnI w P base G p k l A c xs W)(h0:PW w P G p k0)(h1:PW w1 P G p k1)(hk1:k1≤p.toks.length)(o1:Oth P W w1)(hn:n.length≤1000000)
  (ht:TreeP (fun b=>W.heap.size≤b) w1 u v0 v1 v2 v3) (b2:Below w1.heap.size w1 w2) (hown:w3.ownsRow w.heap.size 72 5 (.slice A' (l.length+1) c') (l.length+1) (xs++[S n,v0,v1,v2,v3])) (hg:w2.grownBy w3 (Value.slice A l.length c).ownBlock) (hl:(Value.slice A' (l.length+1) c').ownBlock=(Value.slice A l.length c).ownBlock∨(Value.slice A' (l.length+1) c').ownBlock=some w2.heap.size) :
  BnI w P base G p k1 (l++[(n,u)]) A' c' (xs++[S n,v0,v1,v2,v3]) w3:=by
 have hs1:=o1.size
 have hs2:=b2.size
 have hs3:=hg.size
 have hs0:=h.oth.size
 have hP:=h0.lt
 obtain⟨v,hv'⟩:∃v,(Value.slice A l.length c)=v:=⟨_,rfl⟩
 have hw:=h.own
 have hrow:=h.row
 rw[hv'] at hg hl hrow
 rw[hv'] at hw
 have hv:∀b,v.ownBlock=some b→w.heap.size≤b∧b<W.heap.size:=fun b hb=>hw.lt b hb
 have hbel:∀j,j<w1.heap.size→some j≠v.ownBlock→w3.heap[j]?=w1.heap[j]?:=fun j hj hne=>(hg.block j (by omega) hne).trans (b2.block j hj)
 have o3:Oth P w w3:=⟨hg.os.trans (b2.os.trans (o1.os.trans h.oth.os)),hg.tape.trans (b2.tape.trans (o1.tape.trans h.oth.tape)),hg.output.trans (b2.output.trans (o1.output.trans h.oth.output)),by omega,fun j hj hne=>by
  rw[hbel j (by omega) (fun e=>by have:=(hv j e.symm).1;omega),o1.block j (by omega) hne]
  exact h.oth.block j hj hne⟩
 have hl4:(l++[(n,u)]).length=l.length+1:=by simp
 have hq:∀b,b<w1.heap.size→some b≠v.ownBlock→some b≠(Value.slice A' (l++[(n,u)]).length c').ownBlock:=fun b hb hn=>by
  rw[hl4]
  rcases hl with e | e
  ·rw[e];exact hn
  ·rw[e];intro e';have:=Option.some.inj e';omega
 refine⟨h0.to o3 ((hbel P (by omega) (fun e=>by have:=(hv P e.symm).1;omega)).trans h1.1),hk1,o3,?_,?_,h.pos⟩
 ·rw[hl4];exact hown
 ·refine BRow.append (BRow.one (x:=(n,u)) hn (TreeP.keep (w:=w1) (fun b hb hlt=>hbel b hlt (fun e=>by have:=(hv b e.symm).2;omega)) (by omega) (fun b hlt hb=>⟨by omega,hq b hlt (fun e=>by have:=(hv b e.symm).2;omega)⟩) _ _ _ _ _ ht)) ?_
  exact hrow.keep (fun b hb hlt=>(hbel b (by omega) hb.2).trans (o1.block b hlt (fun e=>by have:=Option.some.inj e;have:=hb.1;omega))) (by omega) (fun b hlt hb=>⟨hb.1,hq b (by omega) hb.2⟩)
theorem BnI.stays{w W:World}{P base:Nat}{G:Hd}{p:Lfc.PE}{k:Nat}{l:List Lfc.Bnd}{A:Option Addr}{c:Nat}{xs:List Value}(h:BnI w P base G p k l A c xs W):Stays (fun b=>w.heap.size≤b) W (fun V=>BndsAt V A l∧l.length≤c):=fun V h1 h2=>by
 have hown:=own_stays h.own (Nat.le_refl _) V h1 h2
 have hrow:=h.row.keep (w':=V) (q':=fun _=>True) (fun b hb hlt=>h2 b hb.1 hlt) h1 (fun _ _ _=>trivial)
 refine⟨fun hne=>?_,own_cap hown⟩
 rcases hown.2 with⟨_,h0⟩ | ⟨g,cap,cur,hv,hbg,hg,_⟩
 ·exact absurd (List.length_eq_zero_iff.1 h0) hne
 ·have hv':=hv
  injection hv' with e1 _ e3
  subst e1 e3
  refine⟨g,0,rfl,lt_of_block hg,hrow.lie fun k u hu=>?_⟩
  have:=hown.cells (g:=g) rfl k u hu
  rwa[show(⟨g,0,none⟩:Addr).add k=⟨g,0+k,none⟩ by unfold Addr.add;split <;> simp_all] at this
structure BxF(W0 W:World)(P X:Nat)(G:Hd)(p:Lfc.PE)(k:Nat)(cs:Array Value)(ty:TypeId):Prop where
 pw:PW W P G p k
 oth:Oth P W0 W
 box:W.heap[X]?=some (.cells cs ty (0,0))
 lt:W0.heap.size≤X
 par:P<W0.heap.size
theorem BxF.step{W0 W W':World}{P X k k':Nat}{G:Hd}{p:Lfc.PE}{cs:Array Value}{ty:TypeId}(h:BxF W0 W P X G p k cs ty)(h':PW W' P G p k')(o:Oth P W W'):BxF W0 W' P X G p k' cs ty:=by
 have:=h.lt
 have:=h.par
 exact⟨h',h.oth.trans o,o.heap h.box (by omega),h.lt,h.par⟩
theorem BxF.start{W0:World}{P k:Nat}{G:Hd}{p:Lfc.PE}(h:PW W0 P G p k)(cs:Array Value)(ty:TypeId):BxF W0 (W0.alloc (.cells cs ty)) P W0.heap.size G p k cs ty :=
 have b:Below W0.heap.size W0 (W0.alloc (.cells cs ty)):=(Below.refl _ _).alloc (Nat.le_refl _) _
 ⟨h.below b,Oth.of_below b,heap_alloc_new _ _,Nat.le_refl _,h.lt⟩
theorem Oth.set4{W s1 s2 s3 s4:World}{X a1 a2 a3 a4:Nat}{v1 v2 v3 v4:Value}(e1:W.setCell ⟨X,a1,none⟩ v1=s1)(e2:s1.setCell ⟨X,a2,none⟩ v2=s2)(e3:s2.setCell ⟨X,a3,none⟩ v3=s3)(e4:s3.setCell ⟨X,a4,none⟩ v4=s4):Oth X W s4:=by
 subst e1 e2 e3 e4
 exact(((Oth.set _ _).trans (Oth.set _ _)).trans (Oth.set _ _)).trans (Oth.set _ _)
theorem BxF.set{W0 W:World}{P X k:Nat}{G:Hd}{p:Lfc.PE}{cs:Array Value}{ty:TypeId}{kz:Nat}(h:BxF W0 W P X G p k cs ty)(hG:PW W0 P G p kz)(j:Nat)(v:Value)(hj:j<cs.size) :
  ∃s u,W.setCell ⟨X,j,none⟩ v=s∧W.cell? ⟨X,j,none⟩=some u∧W.frozen? ⟨X,j,none⟩=false∧Hid (BxF W0 s P X G p k (cs.setIfInBounds j v) ty):=by
 refine⟨_,cs[j],rfl,(Lib.cell_of_heap h.box j).trans (Array.getElem?_eq_getElem _),Lib.frozen_of_heap h.box j,Lib.hid ?_⟩
 have h1:=h.lt
 have h2:=h.par
 have o:Oth X W (W.setCell ⟨X,j,none⟩ v):=Oth.set _ _
 have o':Oth P W0 (W.setCell ⟨X,j,none⟩ v):=h.oth.over o h1
 refine⟨hG.to o' ((o.block P h.pw.lt (fun e=>by have:=Option.some.inj e;omega)).trans h.pw.1),o',by simp[World.setCell,Array.getElem?_modify,h.box],h1,h2⟩
end Go.Proofs.YthajalgkjonaaaaGreatDoor
namespace Go.Proofs.YthajalgkjonaaaaGreatDoor
open Go.RowKit
def sliceLen:Value→Nat
 |.slice _ n _=>n
 |_=>0
def BndsR(w:World)(l:List Lfc.Bnd)(v:Value)(w':World):Prop:=∃A c,v=.slice A l.length c∧Stays (fun b=>w.heap.size≤b) w' (fun V=>BndsAt V A l∧l.length≤c)
theorem bnd_infoR:∃i,Tryz.prog.info? 72=some i∧i.zero=some (.agg #[S [],.int .i64 0,S [],.int .i64 0,.slice none 0 0])∧i.size=5∧i.bytes=72:=by
 obtain⟨i0,hi,hz0,hz1,hz2⟩:=info_parts (show(Tryz.prog.info? 72).map (fun i=>(i.zero,i.size,i.bytes))=some (some (.agg #[S [],.int .i64 0,S [],.int .i64 0,.slice none 0 0]),5,72) by kernel_rfl)
 exact⟨i0,hi,hz0,hz1,hz2⟩
set_option maxRecDepth 100000 in
set_option maxHeartbeats 4000000 in
theorem binders_any{P k:Nat}{G:Hd}{p:Lfc.PE}(w:World)(h:PW w P G p k)(hk:k≤p.toks.length)(ok:POk p) :
  Calls Tryz.prog 176 #[.pointer (some ⟨P,0,none⟩)] w (PRes P G p w (BndsR w) (p.binders k)):=by
 have hlen:=ok.len
 have OK:=Lib.hid ok
 have HP:=Lib.hid h.lt
 have HPW:=Lib.hid h
 obtain⟨iz,hi,hz0,hz1,hz2⟩:=bnd_infoR
 obtain⟨M,hm⟩:∃M,p.binders k=M:=⟨_,rfl⟩
 rw[hm]
 have HNE:Hid (M≠.out):=Lib.hid (by have:=(Lfc.fair_binders p k hk).1;rw[hm] at this;exact this)
 have HR:Hid (M=Lfc.bindersF p (p.toks.length+1) k []):=Lib.hid hm.symm
 have I0:Hid (BnI w P w.heap.size G p k [] none 0 [] w):=Lib.hid ⟨h,hk,Oth.refl _ _,own_nil _ _ _ _,by rw[BRow],rfl⟩
 clear h hm ok
 go_enter Tryz.func176,Tryz.ntmps176
 go_wp2_with fail
 go_loopw [3] (fun v wr=>∃(f kk:Nat)(l:List Lfc.Bnd)(A:Option Addr)(c:Nat)(xs:List Value),v=.slice A l.length c∧kk≤p.toks.length∧l.length≤kk∧Hid (M=Lfc.bindersF p f kk l)∧Hid (BnI w P w.heap.size G p kk l A c xs wr)) (fun v _=>30000-sliceLen v)
 case atStart=>exact⟨p.toks.length+1,k,[],none,0,[],rfl,hk,Nat.zero_le _,HR,I0⟩
 case round =>
  clear HR I0
  obtain⟨f,kk,l,A,c,xs,rfl,hkk,hll,HM,I0⟩:=hrel
  obtain _ | f:=f
  ·exact absurd HM.out HNE.out
  have hm:=HM.out
  rw[Lfc.bindersF] at hm
  have HR:=Lib.hid hm
  clear hm HM
  have FR:=Lfc.fair_punct p kk [123]
  rcases Lfc.PR.cases FR.1 with⟨cc,aa,hr⟩ | ⟨u1,k1,hr⟩
  ·have C:=Lib.hid (punct_any [123] wr I0.out.pw (by omega) OK.out)
   rw[hr] at C
   have hm:=HR.out
   rw[hr,Lfc.PR.then_errE] at hm
   have HM:=Lib.hid hm
   clear hr FR hm
   go_wp2_with (go_at_call 141;refine C.out.mono ?_;rintro e w1⟨rfl,o1⟩)
   rw[HM.out]
   exact⟨rfl,rfl,I0.out.oth.trans o1⟩
  have C:=Lib.hid (punct_any [123] wr I0.out.pw (by omega) OK.out)
  rw[hr] at C
  have hm:=HR.out
  rw[hr,Lfc.PR.then_okE] at hm
  have HR:=Lib.hid hm
  obtain⟨hk1a,hk1b⟩:=FR.2.2 _ _ hr
  have HE1:=Lib.hid hr
  clear hr FR hm
  go_upto_region 3 with(go_at_call 141;refine C.out.mono ?_;rintro e w1⟨⟨v1,rfl,rfl⟩,h1,o1⟩;have F1a:=Lib.hid (I0.out.step HP.out h1 hk1b o1))
  have FR:=Lfc.fair_name p k1
  rcases Lfc.PR.cases FR.1 with⟨cc,aa,hr⟩ | ⟨n,k2,hr⟩
  ·have C:=Lib.hid (name_at w1 F1a.out.pw (by omega) OK.out)
   rw[hr] at C
   have hm:=HR.out
   rw[hr,Lfc.PR.then_errE] at hm
   have HM:=Lib.hid hm
   clear hr FR hm
   go_wp2_with (go_at_call 138;refine C.out.mono ?_;rintro e w2⟨rfl,o2⟩)
   rw[HM.out]
   exact⟨rfl,rfl,F1a.out.oth.trans o2⟩
  have C:=Lib.hid (name_at w1 F1a.out.pw (by omega) OK.out)
  rw[hr] at C
  have hm:=HR.out
  rw[hr,Lfc.PR.then_okE] at hm
  have HR:=Lib.hid hm
  obtain⟨hk2a,hk2b⟩:=FR.2.2 _ _ hr
  have HE2:=Lib.hid hr
  clear hr FR hm
  go_upto_region 4 with(go_at_call 138;refine C.out.mono ?_;rintro e w2⟨⟨v2,rfl,rfl⟩,h2,o2⟩;have F2a:=Lib.hid (F1a.out.step HP.out h2 hk2b o2))
  have HN:=Lib.hid (name_le OK.out HE2.out)
  obtain⟨X,hX⟩:∃X,w2.heap.size=X:=⟨_,rfl⟩
  obtain⟨wx,hwx⟩:∃wx,w2.alloc (.cells #[S n,.int .i64 0,S [],.int .i64 0,.slice none 0 0] 72)=wx:=⟨_,rfl⟩
  have FX:Hid (BxF w2 wx P X G p k2 #[S n,.int .i64 0,S [],.int .i64 0,.slice none 0 0] 72):=Lib.hid (by rw[←hwx,←hX];exact BxF.start F2a.out.pw _ _)
  rw[hwx,hX]
  clear hwx
  have FR:=Lfc.fair_punct p k2 [58]
  rcases Lfc.PR.cases FR.1 with⟨cc,aa,hr⟩ | ⟨u3,k3,hr⟩
  ·have C:=Lib.hid (punct_any [58] wx FX.out.pw (by omega) OK.out)
   rw[hr] at C
   have hm:=HR.out
   rw[hr,Lfc.PR.then_errE] at hm
   have HM:=Lib.hid hm
   clear hr FR hm
   go_wp2_with (go_at_call 141;refine C.out.mono ?_;rintro e w3⟨rfl,o3⟩)
   rw[HM.out]
   exact⟨rfl,rfl,F2a.out.oth.trans (FX.out.oth.trans o3)⟩
  have C:=Lib.hid (punct_any [58] wx FX.out.pw (by omega) OK.out)
  rw[hr] at C
  have hm:=HR.out
  rw[hr,Lfc.PR.then_okE] at hm
  have HR:=Lib.hid hm
  obtain⟨hk3a,hk3b⟩:=FR.2.2 _ _ hr
  have HE3:=Lib.hid hr
  clear hr FR hm
  go_upto_region 5 with(go_at_call 141;refine C.out.mono ?_;rintro e w3⟨⟨v3,rfl,rfl⟩,h3,o3⟩;have F3a:=Lib.hid (FX.out.step h3 o3))
  have FR:=Lfc.fair_expr p k3 (by omega)
  rcases Lfc.PR.cases FR.1 with⟨cc,aa,hr⟩ | ⟨t,k4,hr⟩
  ·have C:=Lib.hid (expr_any p OK.out P k3 G w3 (by omega) F3a.out.pw)
   rw[hr] at C
   have hm:=HR.out
   rw[hr,Lfc.PR.then_errE] at hm
   have HM:=Lib.hid hm
   clear hr FR hm
   go_wp2_with (go_at_call 35;refine C.out.mono ?_;rintro e w4⟨rfl,o4⟩)
   rw[HM.out]
   exact⟨rfl,rfl,F2a.out.oth.trans (F3a.out.oth.trans o4)⟩
  have C:=Lib.hid (expr_any p OK.out P k3 G w3 (by omega) F3a.out.pw)
  rw[hr] at C
  have hm:=HR.out
  rw[hr,Lfc.PR.then_okE] at hm
  have HR:=Lib.hid hm
  obtain⟨hk4a,hk4b⟩:=FR.2.2 _ _ hr
  have HE4:=Lib.hid hr
  clear hr FR hm
  go_upto_region 6 with(go_at_call 35;refine C.out.mono ?_;rintro e w4⟨⟨v4,rfl,hv⟩,h4,o4⟩;have F4a:=Lib.hid (F3a.out.step h4 o4);obtain⟨tk,tn,tp,us,D,g,rfl,rfl,hp⟩:=TreeVP.parts4 hv;have HT:=Lib.hid hp;obtain⟨s1,z1,ex1,ey1,ez1,FS1⟩:=F4a.out.set F2a.out.pw 1 (.int .i64 tk) (by simp);obtain⟨s2,z2,ex2,ey2,ez2,FS2⟩:=FS1.out.set F2a.out.pw 2 (S tn) (by simp);obtain⟨s3,z3,ex3,ey3,ez3,FS3⟩:=FS2.out.set F2a.out.pw 3 (.int .i64 tp) (by simp);obtain⟨s4,z4,ex4,ey4,ez4,FS4⟩:=FS3.out.set F2a.out.pw 4 (.slice D us.length g) (by simp))
  have FR:=Lfc.fair_punct p k4 [125]
  rcases Lfc.PR.cases FR.1 with⟨cc,aa,hr⟩ | ⟨u5,k5,hr⟩
  ·have C:=Lib.hid (punct_any [125] s4 FS4.out.pw (by omega) OK.out)
   rw[hr] at C
   have hm:=HR.out
   rw[hr,Lfc.PR.then_errE] at hm
   have HM:=Lib.hid hm
   clear hr FR hm
   go_wp2_with (go_at_call 141;refine C.out.mono ?_;rintro e w5⟨rfl,o5⟩)
   rw[HM.out]
   exact⟨rfl,rfl,F2a.out.oth.trans (FS4.out.oth.trans o5)⟩
  have C:=Lib.hid (punct_any [125] s4 FS4.out.pw (by omega) OK.out)
  rw[hr] at C
  have hm:=HR.out
  rw[hr,Lfc.PR.then_okE] at hm
  have HR:=Lib.hid hm
  obtain⟨hk5a,hk5b⟩:=FR.2.2 _ _ hr
  have HE5:=Lib.hid hr
  clear hr FR hm
  go_upto_region 7 with(go_at_call 141;refine C.out.mono ?_;rintro e w5⟨⟨v5,rfl,rfl⟩,h5,o5⟩;have F5a:=Lib.hid (FS4.out.step h5 o5))
  have HLM:Hid (l.length+1≤maxLen∧(l.length+1)*72≤140737488355328):=Lib.hid ⟨by unfold maxLen;omega,by omega⟩
  have hsz:=Nat.le_trans F2a.out.oth.size F5a.out.oth.size
  have hbox:w5.heap[X]?=some (.cells #[S n,.int .i64 tk,S tn,.int .i64 tp,.slice D us.length g] 72 (0,0)):=by have:=F5a.out.box;simpa using this
  have c0:=(Lib.cell_of_heap hbox 0:w5.cell? ⟨X,0,none⟩=some (S n))
  have c1:=(Lib.cell_of_heap hbox 1:w5.cell? ⟨X,1,none⟩=some (.int .i64 tk))
  have c2:=(Lib.cell_of_heap hbox 2:w5.cell? ⟨X,2,none⟩=some (S tn))
  have c3:=(Lib.cell_of_heap hbox 3:w5.cell? ⟨X,3,none⟩=some (.int .i64 tp))
  have c4:=(Lib.cell_of_heap hbox 4:w5.cell? ⟨X,4,none⟩=some (.slice D us.length g))
  have oX:=Oth.set4 ex1 ex2 ex3 ex4
  have hX3:X<w3.heap.size:=by have:=lt_of_block F3a.out.box;omega
  have hw2:=F2a.out.oth.size
  have HTP:Hid (TreeP (fun b=>w2.heap.size≤b) w5 (.node tk tn tp us) (.int .i64 tk) (S tn) (.int .i64 tp) (.slice D us.length g)):=Lib.hid (TreeP.keep (fun b hb hlt=>(o5.block b (Nat.lt_of_lt_of_le hlt oX.size) (fun e=>by have:=Option.some.inj e;have:=HP.out;omega)).trans (oX.block b hlt (fun e=>by have:=Option.some.inj e;omega))) (Nat.le_trans oX.size o5.size) (fun b _ hb=>by omega) _ _ _ _ _ HT.out)
  have HOWN:=F2a.out.own.kept F5a.out.oth (Or.inr (fun e=>by have:=(F2a.out.own.lt P e).1;have:=HP.out;omega))
  have CX:∀W,Below w5.heap.size w5 W→W.cell? ⟨X,0,none⟩=some (S n)∧W.cell? ⟨X,1,none⟩=some (.int .i64 tk)∧W.cell? ⟨X,2,none⟩=some (S tn)∧W.cell? ⟨X,3,none⟩=some (.int .i64 tp)∧W.cell? ⟨X,4,none⟩=some (.slice D us.length g):=fun W hb=>by
   have hlt:=lt_of_block hbox
   exact⟨(hb.cell (p:=⟨X,0,none⟩) hlt).trans c0,(hb.cell (p:=⟨X,1,none⟩) hlt).trans c1,(hb.cell (p:=⟨X,2,none⟩) hlt).trans c2,(hb.cell (p:=⟨X,3,none⟩) hlt).trans c3,(hb.cell (p:=⟨X,4,none⟩) hlt).trans c4⟩
  clear ex1 ex2 ex3 ex4 ey1 ey2 ey3 ey4 ez1 ez2 ez3 ez4 oX hbox
  go_wp2_with (at_builtin;refine wpList_append_own_any _ rfl _ _ 35 rfl w.heap.size 72 iz (.agg #[S [],.int .i64 0,S [],.int .i64 0,.slice none 0 0]) 5 72 Tryz.underlying35 hi hz0 hz1 hz2 rfl (by decide) _ _ _ rfl (HOWN.alloc _) (some ⟨w5.heap.size,0,none⟩) 1 1 [S n,.int .i64 tk,S tn,.int .i64 tp,.slice D us.length g] rfl rfl (fun _=>⟨_,rfl,fun jj u h=>cells_new w5 _ rfl [S n,.int .i64 tk,S tn,.int .i64 tp,.slice D us.length g] _ jj u h⟩) (by intro u hu;simp at hu;rcases hu with rfl | rfl | rfl | rfl | rfl <;> rfl) HLM.out.1 HLM.out.2 (alloc_le hsz) ?_)
  intro v' w10 hown10 hg10 hloc10
  obtain⟨A10,c10,rfl⟩:=own_form hown10
  all_goals
   have HN10:=Lib.hid (F2a.out.push HPW.out F5a.out.pw hk5b F5a.out.oth HN.out HTP.out ((Below.refl _ _).alloc (Nat.le_refl _) _) hown10 hg10 (by simpa using hloc10))
   have CI:=Lib.hid (is_any 2 [123] w10 HN10.out.pw hk5b OK.out)
   clear hown10 hg10 hloc10 HOWN c0 c1 c2 c3 c4
   have hm:=HR.out
   cases hq:p.is k5 2 [123]
   ·rw[if_neg (by rw[hq];decide)] at hm
    rw[hq] at CI
    have HM:=Lib.hid hm
    clear hm
    go_wp2_with (go_at_call 140;refine CI.out.mono ?_;rintro e w11⟨rfl,b11⟩)
    rw[HM.out]
    have HN11:=HN10.out.step HP.out (HN10.out.pw.below b11) hk5b (Oth.of_below b11)
    refine⟨rfl,_,results_tmp rfl _ _ _,?_⟩
    exact⟨⟨_,rfl,A10,c10,by simp,HN11.stays⟩,HN11.pw,HN11.oth⟩
   ·rw[if_pos hq] at hm
    rw[hq] at CI
    have HM:=Lib.hid hm
    clear hm
    go_wp2_with (go_at_call 140;refine CI.out.mono ?_;rintro e w11⟨rfl,b11⟩)
    have HN11:=Lib.hid (HN10.out.step HP.out (HN10.out.pw.below b11) hk5b (Oth.of_below b11))
    go_roundw
    case rel=>exact⟨f,k5,_,A10,c10,_,by simp,hk5b,by simp;omega,HM,HN11⟩
    case measure=>simp[sliceLen];omega
set_option maxRecDepth 100000 in
set_option maxHeartbeats 4000000 in
theorem block_any{P I k:Nat}{G:Hd}{p:Lfc.PE}(a:Nat)(w:World)(h:ItF w w P I G p k (itCells (Lfc.Itm.new a) IS.nil))(hk:k≤p.toks.length)(ok:POk p) :
  Calls Tryz.prog 128 #[.pointer (some ⟨P,0,none⟩),.pointer (some ⟨I,0,none⟩)] w (ItRes P I G p w (p.blockP (Lfc.Itm.new a) k)):=by
 have hlen:=ok.len
 have hP:=h.pw.lt
 have hI:=h.lt
 have OK:=Lib.hid ok
 have F0:=Lib.hid h
 have HPI:=Lib.hid (And.intro hP hI)
 obtain⟨M,hm⟩:∃M,p.blockP (Lfc.Itm.new a) k=M:=⟨_,rfl⟩
 rw[hm]
 have HR:=Lib.hid hm.symm
 unfold Lfc.PE.blockP at HR
 clear h ok hm
 go_enter Tryz.func128,Tryz.ntmps128
 have FR:=Lfc.fair_name p k
 rcases Lfc.PR.cases FR.1 with⟨cc,aa,hr⟩ | ⟨n,k1,hr⟩
 ·have C:=Lib.hid (name_at w F0.out.pw (by omega) OK.out)
  rw[hr] at C
  have hm:=HR.out
  rw[hr,Lfc.PR.then_errE] at hm
  have HM:=Lib.hid hm
  clear hr FR hm
  go_wp2_with (go_at_call 138;refine C.out.mono ?_;rintro e w1⟨rfl,o1⟩)
  rw[HM.out]
  exact⟨rfl,rfl,(Oth2.refl P I w).trans (F0.out.oth.trans (Oth2.left o1))⟩
 have C:=Lib.hid (name_at w F0.out.pw (by omega) OK.out)
 rw[hr] at C
 have hm:=HR.out
 rw[hr,Lfc.PR.then_okE] at hm
 have HR:=Lib.hid hm
 obtain⟨hk1a,hk1b⟩:=FR.2.2 _ _ hr
 have HE1:=Lib.hid hr
 clear hr FR hm
 go_upto_region 1 with(go_at_call 138;refine C.out.mono ?_;rintro e w1⟨⟨v1,rfl,rfl⟩,h1,o1⟩;have F1a:=Lib.hid (F0.out.call h1 o1);obtain⟨s2,u2,e2,y2,z2,F2⟩:=F1a.out.set 0 (.int .i64 4) (by decide);obtain⟨s3,u3,e3,y3,z3,F3⟩:=F2.out.set 2 (S n) (by decide))
 have HN:=Lib.hid (name_le OK.out HE1.out)
 have FR:=Lfc.fair_punct p k1 [58]
 rcases Lfc.PR.cases FR.1 with⟨cc,aa,hr⟩ | ⟨u,k4,hr⟩
 ·have C:=Lib.hid (punct_any [58] s3 F3.out.pw (by omega) OK.out)
  rw[hr] at C
  have hm:=HR.out
  rw[hr,Lfc.PR.then_errE] at hm
  have HM:=Lib.hid hm
  clear hr FR hm
  go_wp2_with (go_at_call 141;refine C.out.mono ?_;rintro e w4⟨rfl,o4⟩)
  rw[HM.out]
  exact⟨rfl,rfl,(Oth2.refl P I w).trans (F3.out.oth.trans (Oth2.left o4))⟩
 have C:=Lib.hid (punct_any [58] s3 F3.out.pw (by omega) OK.out)
 rw[hr] at C
 have hm:=HR.out
 rw[hr,Lfc.PR.then_okE] at hm
 have HR:=Lib.hid hm
 obtain⟨hk4a,hk4b⟩:=FR.2.2 _ _ hr
 have HE4:=Lib.hid hr
 clear hr FR hm
 go_upto_region 2 with(go_at_call 141;refine C.out.mono ?_;rintro e w4⟨⟨v4,rfl,rfl⟩,h4,o4⟩;have F4a:=Lib.hid (F3.out.call h4 o4))
 cases hz:p.is k4 1 [115,111,109,101]
 ·skip
  have hm:=HR.out
  rw[if_neg (by rw[hz];decide),Lfc.PR.then_okE] at hm
  have HR:=Lib.hid hm
  clear hm
  have C:=Lib.hid (take_any 1 [115,111,109,101] w4 F4a.out.pw (by omega) OK.out)
  simp only[hz,if_true,Bool.false_eq_true,if_false] at C
  go_upto_region 4 with(go_at_call 139;refine C.out.mono ?_;rintro e w5⟨rfl,h5,o5⟩;have F5a:=Lib.hid (F4a.out.call h5 o5))
  clear hz
  obtain⟨wl6,hwl6⟩:∃wl,w5.alloc (.cells #[S [98,108,111,99,107]] 9)=wl:=⟨_,rfl⟩
  have bl6:Below w5.heap.size w5 wl6:=by rw[←hwl6];exact(Below.refl _ _).alloc (Nat.le_refl _) _
  have ql6:wl6.heap[w5.heap.size]?=some (.cells #[S [98,108,111,99,107]] 9 (0,0)):=by rw[←hwl6];exact heap_alloc_new _ _
  have F6:=Lib.hid (F5a.out.below bl6)
  have hwcs6:∀j(hj:j<([[98,108,111,99,107]]:List (List UInt8)).length),wl6.cell? ⟨w5.heap.size,0+j,none⟩=some (S ([[98,108,111,99,107]]:List (List UInt8))[j]):=fun j hj=>by
   rw[Nat.zero_add,Lib.cell_of_heap ql6 j]
   have:j=0:=by simpa using hj
   subst this;rfl
  have FR:=Lfc.fair_word p k4 [[98,108,111,99,107]]
  rcases Lfc.PR.cases FR.1 with⟨cc,aa,hr⟩ | ⟨iw,k7,hr⟩
  ·have C:=Lib.hid (word_any (k:=k4) [[98,108,111,99,107]] w5.heap.size 0 1 wl6 F6.out.pw (by omega) OK.out (by decide) (lt_of_block ql6) hwcs6)
   rw[hr] at C
   have hm:=HR.out
   rw[hr,Lfc.PR.then_errE] at hm
   have HM:=Lib.hid hm
   clear hr FR hm
   rw[show([[98,108,111,99,107]]:List (List UInt8)).length=1 from rfl] at C
   go_wp2_with (go_at_call 174;refine C.out.mono ?_;rintro e w7⟨rfl,o7⟩)
   rw[HM.out]
   exact⟨rfl,rfl,(Oth2.refl P I w).trans (F6.out.oth.trans (Oth2.left o7))⟩
  have C:=Lib.hid (word_any (k:=k4) [[98,108,111,99,107]] w5.heap.size 0 1 wl6 F6.out.pw (by omega) OK.out (by decide) (lt_of_block ql6) hwcs6)
  rw[hr] at C
  have hm:=HR.out
  rw[hr,Lfc.PR.then_okE] at hm
  have HR:=Lib.hid hm
  obtain⟨hk7a,hk7b⟩:=FR.2.2 _ _ hr
  have HE7:=Lib.hid hr
  clear hr FR hm
  rw[show([[98,108,111,99,107]]:List (List UInt8)).length=1 from rfl] at C
  go_upto_region 5 with(go_at_call 174;refine C.out.mono ?_;rintro e w7⟨⟨v7,rfl,rfl⟩,h7,o7⟩;have F7a:=Lib.hid (F6.out.call h7 o7))
  have FR:=Lfc.fair_binders p k7 (by omega)
  rcases Lfc.PR.cases FR.1 with⟨cc,aa,hr⟩ | ⟨l8,k8,hr⟩
  ·have C:=Lib.hid (binders_any w7 F7a.out.pw (by omega) OK.out)
   rw[hr] at C
   have hm:=HR.out
   rw[hr,Lfc.PR.then_errE] at hm
   have HM:=Lib.hid hm
   clear hr FR hm
   go_wp2_with (go_at_call 176;refine C.out.mono ?_;rintro e w8⟨rfl,o8⟩)
   rw[HM.out]
   exact⟨rfl,rfl,(Oth2.refl P I w).trans (F7a.out.oth.trans (Oth2.left o8))⟩
  have C:=Lib.hid (binders_any w7 F7a.out.pw (by omega) OK.out)
  rw[hr] at C
  have hm:=HR.out
  rw[hr,Lfc.PR.then_okE] at hm
  have HR:=Lib.hid hm
  obtain⟨hk8a,hk8b⟩:=FR.2.2 _ _ hr
  have HE8:=Lib.hid hr
  clear hr FR hm
  go_upto_region 6 with(go_at_call 176;refine C.out.mono ?_;rintro e w8⟨⟨v8,rfl,hv⟩,h8,o8⟩;have F8a:=Lib.hid (F7a.out.call h8 o8);obtain⟨A8,c8,rfl,hs8⟩:=hv;have T8:=Lib.hid (hs8.to (q':=fun b=>w.heap.size≤b) (Nat.le_refl _) (fun _ _ _=>rfl) (fun b hlt hb=>Nat.le_trans (Nat.le_trans (Oth2.refl P I w).size F7a.out.oth.size) hb));have F8b:=Lib.hid F8a.out.again;have OT8:=Lib.hid ((Oth2.refl P I w).trans F8a.out.oth);obtain⟨s9,u9,e9,y9,z9,F9⟩:=F8b.out.set 9 (.slice A8 l8.length c8) (by decide))
  clear hs8
  have FR:=Lfc.fair_punct p k8 [46]
  rcases Lfc.PR.cases FR.1 with⟨cc,aa,hr⟩ | ⟨u',k10,hr⟩
  ·have C:=Lib.hid (punct_any [46] s9 F9.out.pw (by omega) OK.out)
   rw[hr] at C
   have hm:=HR.out
   rw[hr,Lfc.PR.then_errE] at hm
   have HM:=Lib.hid hm
   clear hr FR hm
   go_wp2_with (go_at_call 141;refine C.out.mono ?_;rintro e w10⟨rfl,o10⟩)
   rw[HM.out]
   exact⟨rfl,rfl,OT8.out.trans (F9.out.oth.trans (Oth2.left o10))⟩
  have C:=Lib.hid (punct_any [46] s9 F9.out.pw (by omega) OK.out)
  rw[hr] at C
  have hm:=HR.out
  rw[hr,Lfc.PR.then_okE] at hm
  have HR:=Lib.hid hm
  obtain⟨hk10a,hk10b⟩:=FR.2.2 _ _ hr
  have HE10:=Lib.hid hr
  clear hr FR hm
  go_wp2_with (go_at_call 141;refine C.out.mono ?_;rintro e w10⟨⟨v10,rfl,rfl⟩,h10,o10⟩;have F10a:=Lib.hid (F9.out.call h10 o10))
  go_end0
  rw[HR.out]
  obtain⟨hPx,hIx⟩:=HPI.out
  exact(F10a.out.rebase OT8.out).ret { Lfc.Itm.new a with kind:=4,name:=n,params:=l8 } { IS.nil with pa:=(A8,c8) } rfl ((T8.out.oth2 F10a.out.oth hPx hIx).imp fun W h=>{ ItV.nil W a with name:=HN.out,pa:=h })
 ·skip
  have hm:=HR.out
  rw[if_pos hz] at hm
  have HR:=Lib.hid hm
  clear hm
  have C:=Lib.hid (take_any 1 [115,111,109,101] w4 F4a.out.pw (by omega) OK.out)
  simp only[hz,if_true,Bool.false_eq_true,if_false] at C
  have hk11a:k4+1≤p.toks.length:=Lfc.is_ltk (by decide) hz
  go_upto_region 3 with(go_at_call 139;refine C.out.mono ?_;rintro e w11⟨rfl,h11,o11⟩;have F11a:=Lib.hid (F4a.out.call h11 o11))
  clear hz
  have FR:=Lfc.fair_binders p (k4+1) (by omega)
  rcases Lfc.PR.cases FR.1 with⟨cc,aa,hr⟩ | ⟨l12,k12,hr⟩
  ·have C:=Lib.hid (binders_any w11 F11a.out.pw (by omega) OK.out)
   rw[hr] at C
   have hm:=HR.out
   rw[hr,Lfc.PR.then_errE] at hm
   have HM:=Lib.hid hm
   clear hr FR hm
   go_wp2_with (go_at_call 176;refine C.out.mono ?_;rintro e w12⟨rfl,o12⟩)
   rw[HM.out]
   exact⟨rfl,rfl,(Oth2.refl P I w).trans (F11a.out.oth.trans (Oth2.left o12))⟩
  have C:=Lib.hid (binders_any w11 F11a.out.pw (by omega) OK.out)
  rw[hr] at C
  have hm:=HR.out
  rw[hr,Lfc.PR.then_okE] at hm
  have HR:=Lib.hid hm
  obtain⟨hk12a,hk12b⟩:=FR.2.2 _ _ hr
  have HE12:=Lib.hid hr
  clear hr FR hm
  go_upto_region 4 with(go_at_call 176;refine C.out.mono ?_;rintro e w12⟨⟨v12,rfl,hv⟩,h12,o12⟩;have F12a:=Lib.hid (F11a.out.call h12 o12);obtain⟨A12,c12,rfl,hs12⟩:=hv;have T12:=Lib.hid (hs12.to (q':=fun b=>w.heap.size≤b) (Nat.le_refl _) (fun _ _ _=>rfl) (fun b hlt hb=>Nat.le_trans (Nat.le_trans (Oth2.refl P I w).size F11a.out.oth.size) hb));have F12b:=Lib.hid F12a.out.again;have OT12:=Lib.hid ((Oth2.refl P I w).trans F12a.out.oth);obtain⟨s13,u13,e13,y13,z13,F13⟩:=F12b.out.set 8 (.slice A12 l12.length c12) (by decide))
  clear hs12
  obtain⟨wl14,hwl14⟩:∃wl,s13.alloc (.cells #[S [98,108,111,99,107]] 9)=wl:=⟨_,rfl⟩
  have bl14:Below s13.heap.size s13 wl14:=by rw[←hwl14];exact(Below.refl _ _).alloc (Nat.le_refl _) _
  have ql14:wl14.heap[s13.heap.size]?=some (.cells #[S [98,108,111,99,107]] 9 (0,0)):=by rw[←hwl14];exact heap_alloc_new _ _
  have F14:=Lib.hid (F13.out.below bl14)
  have hwcs14:∀j(hj:j<([[98,108,111,99,107]]:List (List UInt8)).length),wl14.cell? ⟨s13.heap.size,0+j,none⟩=some (S ([[98,108,111,99,107]]:List (List UInt8))[j]):=fun j hj=>by
   rw[Nat.zero_add,Lib.cell_of_heap ql14 j]
   have:j=0:=by simpa using hj
   subst this;rfl
  have FR:=Lfc.fair_word p k12 [[98,108,111,99,107]]
  rcases Lfc.PR.cases FR.1 with⟨cc,aa,hr⟩ | ⟨iw,k15,hr⟩
  ·have C:=Lib.hid (word_any (k:=k12) [[98,108,111,99,107]] s13.heap.size 0 1 wl14 F14.out.pw (by omega) OK.out (by decide) (lt_of_block ql14) hwcs14)
   rw[hr] at C
   have hm:=HR.out
   rw[hr,Lfc.PR.then_errE] at hm
   have HM:=Lib.hid hm
   clear hr FR hm
   rw[show([[98,108,111,99,107]]:List (List UInt8)).length=1 from rfl] at C
   go_wp2_with (go_at_call 174;refine C.out.mono ?_;rintro e w15⟨rfl,o15⟩)
   rw[HM.out]
   exact⟨rfl,rfl,OT12.out.trans (F14.out.oth.trans (Oth2.left o15))⟩
  have C:=Lib.hid (word_any (k:=k12) [[98,108,111,99,107]] s13.heap.size 0 1 wl14 F14.out.pw (by omega) OK.out (by decide) (lt_of_block ql14) hwcs14)
  rw[hr] at C
  have hm:=HR.out
  rw[hr,Lfc.PR.then_okE] at hm
  have HR:=Lib.hid hm
  obtain⟨hk15a,hk15b⟩:=FR.2.2 _ _ hr
  have HE15:=Lib.hid hr
  clear hr FR hm
  rw[show([[98,108,111,99,107]]:List (List UInt8)).length=1 from rfl] at C
  go_upto_region 5 with(go_at_call 174;refine C.out.mono ?_;rintro e w15⟨⟨v15,rfl,rfl⟩,h15,o15⟩;have F15a:=Lib.hid (F14.out.call h15 o15))
  have FR:=Lfc.fair_binders p k15 (by omega)
  rcases Lfc.PR.cases FR.1 with⟨cc,aa,hr⟩ | ⟨l16,k16,hr⟩
  ·have C:=Lib.hid (binders_any w15 F15a.out.pw (by omega) OK.out)
   rw[hr] at C
   have hm:=HR.out
   rw[hr,Lfc.PR.then_errE] at hm
   have HM:=Lib.hid hm
   clear hr FR hm
   go_wp2_with (go_at_call 176;refine C.out.mono ?_;rintro e w16⟨rfl,o16⟩)
   rw[HM.out]
   exact⟨rfl,rfl,OT12.out.trans (F15a.out.oth.trans (Oth2.left o16))⟩
  have C:=Lib.hid (binders_any w15 F15a.out.pw (by omega) OK.out)
  rw[hr] at C
  have hm:=HR.out
  rw[hr,Lfc.PR.then_okE] at hm
  have HR:=Lib.hid hm
  obtain⟨hk16a,hk16b⟩:=FR.2.2 _ _ hr
  have HE16:=Lib.hid hr
  clear hr FR hm
  go_upto_region 6 with(go_at_call 176;refine C.out.mono ?_;rintro e w16⟨⟨v16,rfl,hv⟩,h16,o16⟩;have F16a:=Lib.hid (F15a.out.call h16 o16);obtain⟨A16,c16,rfl,hs16⟩:=hv;have T16:=Lib.hid (hs16.to (q':=fun b=>w.heap.size≤b) (Nat.le_refl _) (fun _ _ _=>rfl) (fun b hlt hb=>Nat.le_trans (Nat.le_trans OT12.out.size F15a.out.oth.size) hb));have F16b:=Lib.hid F16a.out.again;have OT16:=Lib.hid (OT12.out.trans F16a.out.oth);have T16m0:=Lib.hid (T12.out.oth2 F16a.out.oth HPI.out.1 HPI.out.2);obtain⟨s17,u17,e17,y17,z17,F17⟩:=F16b.out.set 9 (.slice A16 l16.length c16) (by decide))
  clear hs16
  have FR:=Lfc.fair_punct p k16 [46]
  rcases Lfc.PR.cases FR.1 with⟨cc,aa,hr⟩ | ⟨u',k18,hr⟩
  ·have C:=Lib.hid (punct_any [46] s17 F17.out.pw (by omega) OK.out)
   rw[hr] at C
   have hm:=HR.out
   rw[hr,Lfc.PR.then_errE] at hm
   have HM:=Lib.hid hm
   clear hr FR hm
   go_wp2_with (go_at_call 141;refine C.out.mono ?_;rintro e w18⟨rfl,o18⟩)
   rw[HM.out]
   exact⟨rfl,rfl,OT16.out.trans (F17.out.oth.trans (Oth2.left o18))⟩
  have C:=Lib.hid (punct_any [46] s17 F17.out.pw (by omega) OK.out)
  rw[hr] at C
  have hm:=HR.out
  rw[hr,Lfc.PR.then_okE] at hm
  have HR:=Lib.hid hm
  obtain⟨hk18a,hk18b⟩:=FR.2.2 _ _ hr
  have HE18:=Lib.hid hr
  clear hr FR hm
  go_wp2_with (go_at_call 141;refine C.out.mono ?_;rintro e w18⟨⟨v18,rfl,rfl⟩,h18,o18⟩;have F18a:=Lib.hid (F17.out.call h18 o18))
  go_end0
  rw[HR.out]
  obtain⟨hPx,hIx⟩:=HPI.out
  exact(F18a.out.rebase OT16.out).ret { Lfc.Itm.new a with kind:=4,name:=n,som:=l12,params:=l16 } { IS.nil with so:=(A12,c12),pa:=(A16,c16) } rfl (((T16m0.out.oth2 F18a.out.oth hPx hIx).and (T16.out.oth2 F18a.out.oth hPx hIx)).imp fun W ⟨h,h'⟩=>{ ItV.nil W a with name:=HN.out,so:=h,pa:=h' })
end Go.Proofs.YthajalgkjonaaaaGreatDoor
namespace Go.Proofs.YthajalgkjonaaaaGreatDoor
open Go.RowKit
structure OrI(w:World)(P:Nat)(G:Hd)(p:Lfc.PE)(k X:Nat)(kd:Int)(l:List Lfc.Ord)(A:Option Addr)(c:Nat)(xs:List Value)(W:World):Prop where
 pw:PW W P G p k
 le:k≤p.toks.length
 oth:Oth P w W
 lt:w.heap.size<X
 res:W.heap[w.heap.size]?=some (.cells #[.int .i64 0,.int .i64 0,.slice none 0 0] 40 (0,0))
 box:W.heap[X]?=some (.cells #[.int .i64 kd,.int .i64 0,.slice A l.length c] 40 (0,0))
 own:W.ownsRow (X+1) 40 3 (.slice A l.length c) l.length xs
 row:ORow (fun b=>w.heap.size<b∧b≠X∧some b≠(Value.slice A l.length c).ownBlock) W l xs
theorem OrI.step{w W W':World}{P:Nat}{G:Hd}{p:Lfc.PE}{k k' X:Nat}{kd:Int}{l:List Lfc.Ord}{A:Option Addr}{c:Nat}{xs:List Value}(h:OrI w P G p k X kd l A c xs W)(hP:P<w.heap.size)(h':PW W' P G p k')(hk:k'≤p.toks.length)(o:Oth P W W'):OrI w P G p k' X kd l A c xs W':=by
 have hX:=lt_of_block h.box
 have hlt:=h.lt
 refine⟨h',hk,h.oth.trans o,hlt,o.heap h.res (by omega),o.heap h.box (by omega),h.own.kept o (Or.inr (fun e=>by have:=(h.own.lt P e).1;omega)),?_⟩
 exact h.row.keep (fun b hb hlt=>o.block b hlt (fun e=>by have:=Option.some.inj e;have:=hb.1;omega)) o.size (fun _ _ h=>h)
theorem OrI.push{w W w1 w2 w3:World}{P k0 k k1:Nat}{G:Hd}{p:Lfc.PE}{X:Nat}{kd:Int}{l:List Lfc.Ord}{A A':Option Addr}{c c':Nat}{xs:List Value}{u:Lfc.Ord}{v0 v1 v2:Value}(h:OrI w P G p k X kd l A c xs W)(h0:PW w P G p k0)(h1:PW w1 P G p k1)(hk1:k1≤p.toks.length)(o1:Oth P W w1)
  (ht:OrdP (fun b=>W.heap.size≤b) w1 u v0 v1 v2) (b2:Below w1.heap.size w1 w2) (hown:w3.ownsRow (X+1) 40 3 (.slice A' (l.length+1) c') (l.length+1) (xs++[v0,v1,v2])) (hg:w2.grownBy w3 (Value.slice A l.length c).ownBlock) (hl:(Value.slice A' (l.length+1) c').ownBlock=(Value.slice A l.length c).ownBlock∨(Value.slice A' (l.length+1) c').ownBlock=some w2.heap.size) :
  w3.heap[X]?=some (.cells #[.int .i64 kd,.int .i64 0,.slice A l.length c] 40 (0,0))∧OrI w P G p k1 X kd (l++[u]) A' c' (xs++[v0,v1,v2]) (w3.setCell ⟨X,2,none⟩ (.slice A' (l.length+1) c')):=by
 have hs1:=o1.size
 have hs2:=b2.size
 have hs3:=hg.size
 have hlt:=h.lt
 have hXl:=lt_of_block h.box
 have hP:=h0.lt
 obtain⟨v,hv'⟩:∃v,(Value.slice A l.length c)=v:=⟨_,rfl⟩
 have hw:=h.own
 have hrow:=h.row
 rw[hv'] at hg hl hrow
 rw[hv'] at hw
 have hv:∀b,v.ownBlock=some b→X+1≤b∧b<W.heap.size:=fun b hb=>hw.lt b hb
 have ho1:∀j,j<W.heap.size→j≠P→w1.heap[j]?=W.heap[j]?:=fun j hj hne=>o1.block j hj (fun e=>hne (Option.some.inj e))
 have hbel:∀j,j<w1.heap.size→some j≠v.ownBlock→w3.heap[j]?=w1.heap[j]?:=fun j hj hne=>(hg.block j (by omega) hne).trans (b2.block j hj)
 have hb3:w3.heap[X]?=some (.cells #[.int .i64 kd,.int .i64 0,.slice A l.length c] 40 (0,0)):=(hbel X (by omega) (fun e=>by have:=(hv X e.symm).1;omega)).trans ((ho1 X hXl (by omega)).trans h.box)
 refine⟨hb3,?_⟩
 obtain⟨w4,hw4⟩:∃w4,w3.setCell ⟨X,2,none⟩ (.slice A' (l.length+1) c')=w4:=⟨_,rfl⟩
 have o4:Oth X w3 w4:=by rw[←hw4];exact Oth.set _ _
 have hs4:=o4.size
 rw[hw4]
 have h4:∀j,j<w1.heap.size→j≠X→some j≠v.ownBlock→w4.heap[j]?=w1.heap[j]?:=fun j hj hB hne=>(o4.block j (by omega) (fun e=>hB (Option.some.inj e))).trans (hbel j hj hne)
 have hos:=h.oth.size
 have o3:Oth P w w4:=⟨o4.os.trans (hg.os.trans (b2.os.trans (o1.os.trans h.oth.os))),o4.tape.trans (hg.tape.trans (b2.tape.trans (o1.tape.trans h.oth.tape))),o4.output.trans (hg.output.trans (b2.output.trans (o1.output.trans h.oth.output))),by omega,fun j hj hne=>by
  rw[h4 j (by omega) (by omega) (fun e=>by have:=(hv j e.symm).1;omega),o1.block j (by omega) hne]
  exact h.oth.block j hj hne⟩
 have hl4:(l++[u]).length=l.length+1:=by simp
 have hq:∀b,b<w1.heap.size→some b≠v.ownBlock→some b≠(Value.slice A' (l++[u]).length c').ownBlock:=fun b hb hn=>by
  rw[hl4]
  rcases hl with e | e
  ·rw[e];exact hn
  ·rw[e];intro e';have:=Option.some.inj e';omega
 refine⟨h0.to o3 ((h4 P (by omega) (by omega) (fun e=>by have:=(hv P e.symm).1;omega)).trans h1.1),hk1,o3,hlt,(h4 _ (by omega) (by omega) (fun e=>by have:=(hv _ e.symm).1;omega)).trans ((ho1 _ (by omega) (by omega)).trans h.res),?_,?_,?_⟩
 ·rw[hl4,←hw4];simp[World.setCell,Array.getElem?_modify,hb3]
 ·rw[hl4]
  exact hown.kept o4 (Or.inr (fun e=>by have:=(hown.lt X e).1;omega))
 ·refine ORow.append (ORow.one (OrdP.keep (w:=w1) (fun b hb hlt=>h4 b hlt (by omega) (fun e=>by have:=(hv b e.symm).2;omega)) (by omega) (fun b hlt hb=>⟨by omega,by omega,hq b hlt (fun e=>by have:=(hv b e.symm).2;omega)⟩) _ _ _ _ ht)) ?_
  exact hrow.keep (fun b hb hlt=>(h4 b (by omega) hb.2.1 hb.2.2).trans (ho1 b hlt (by have:=hb.1;omega))) (by omega) (fun b hlt hb=>⟨hb.1,hb.2.1,hq b (by omega) hb.2.2⟩)
theorem OrI.order{w W:World}{P:Nat}{G:Hd}{p:Lfc.PE}{k X:Nat}{kd:Int}{l:List Lfc.Ord}{A:Option Addr}{c:Nat}{xs:List Value}(h:OrI w P G p k X kd l A c xs W):OrdP (fun b=>w.heap.size<b) W (.node kd 0 l) (.int .i64 kd) (.int .i64 0) (.slice A l.length c):=by
 rw[OrdP]
 have hlt:=h.lt
 refine⟨rfl,rfl,A,c,rfl,own_cap h.own,fun hne=>?_⟩
 have hr:ORow (fun b=>w.heap.size<b) W l xs:=h.row.keep (fun _ _ _=>rfl) (Nat.le_refl _) (fun _ _ hb=>hb.1)
 have hw:=h.own
 rcases hw.2 with⟨_,h2⟩ | ⟨g,cap,cur,hv,hbg,hg,_⟩
 ·exact absurd (List.length_eq_zero_iff.1 h2) hne
 ·injection hv with e1 _ e3
  subst e1 e3
  exact⟨g,0,rfl,lt_of_block hg,by omega,hr.lie (own_cellsO hw)⟩
theorem OrI.order3{w W s1 s2 s3:World}{P:Nat}{G:Hd}{p:Lfc.PE}{k X:Nat}{kd:Int}{l:List Lfc.Ord}{A:Option Addr}{c:Nat}{xs:List Value}{v0 v1 v2:Value}(h:OrI w P G p k X kd l A c xs W)(e1:W.setCell ⟨w.heap.size,0,none⟩ v0=s1)(e2:s1.setCell ⟨w.heap.size,1,none⟩ v1=s2)(e3:s2.setCell ⟨w.heap.size,2,none⟩ v2=s3):OrdP (fun b=>w.heap.size≤b) s3 (.node kd 0 l) (.int .i64 kd) (.int .i64 0) (.slice A l.length c):=by
 have o:Oth w.heap.size W s3:=by
  subst e1 e2 e3
  exact((Oth.set _ _).trans (Oth.set _ _)).trans (Oth.set _ _)
 exact OrdP.keep (fun b hb hlt=>o.block b hlt (fun e=>by have:=Option.some.inj e;omega)) o.size (fun b _ hb=>Nat.le_of_lt hb) _ _ _ _ h.order
theorem OrdVP.parts3{q:Nat→Prop}{w:World}{t:Lfc.Ord}{v:Value}(h:OrdVP q w t v):∃k a ts A c,t=.node k a ts∧v=.agg #[.int .i64 k,.int .i64 a,.slice A ts.length c]∧OrdP q w t (.int .i64 k) (.int .i64 a) (.slice A ts.length c):=by
 obtain⟨k,a,ts⟩:=t
 obtain⟨v0,v1,v2,rfl,h⟩:=h
 have h':=h
 rw[OrdP] at h'
 obtain⟨rfl,rfl,A,c,rfl,_⟩:=h'
 exact⟨k,a,ts,A,c,rfl,rfl,h⟩
theorem ord_infoP:∃i,Tryz.prog.info? 40=some i∧i.zero=some (.agg #[.int .i64 0,.int .i64 0,.slice none 0 0])∧i.size=3∧i.bytes=40:=by
 obtain⟨i0,hi,hz0,hz1,hz2⟩:=info_parts (show(Tryz.prog.info? 40).map (fun i=>(i.zero,i.size,i.bytes))=some (some (.agg #[.int .i64 0,.int .i64 0,.slice none 0 0]),3,40) by kernel_rfl)
 exact⟨i0,hi,hz0,hz1,hz2⟩
def partLen(X:Nat)(W:World):Nat:=match W.cell? ⟨X,2,none⟩ with
 |some (.slice _ n _)=>n
 |_=>0
theorem OrI.len{w W:World}{P:Nat}{G:Hd}{p:Lfc.PE}{k X:Nat}{kd:Int}{l:List Lfc.Ord}{A:Option Addr}{c:Nat}{xs:List Value}(h:OrI w P G p k X kd l A c xs W):partLen X W=l.length:=by
 have:=Lib.cell_of_heap h.box 2
 unfold partLen
 rw[this]
 rfl
theorem OrI.next{w W W':World}{P:Nat}{G:Hd}{p:Lfc.PE}{k X:Nat}{kd:Int}{l:List Lfc.Ord}{A:Option Addr}{c:Nat}{xs:List Value}(h:OrI w P G p k X kd l A c xs W)(hP:P<w.heap.size)(hk:k+1≤p.toks.length)(e:W.setCell ⟨P,1,none⟩ (.int .i64 ((k:Int)+1))=W'):OrI w P G p (k+1) X kd l A c xs W':=by
 have h1:=h.pw.step (k+1)
 rw[show((k+1:Nat):Int)=(k:Int)+1 by omega,e] at h1
 exact h.step hP h1 hk (by rw[←e];exact Oth.set _ _)
theorem OrI.result{w W:World}{P:Nat}{G:Hd}{p:Lfc.PE}{k X:Nat}{kd:Int}{l:List Lfc.Ord}{A:Option Addr}{c:Nat}{xs:List Value}(h:OrI w P G p k X kd l A c xs W)(hP:P<w.heap.size):BxF w W P w.heap.size G p k #[.int .i64 0,.int .i64 0,.slice none 0 0] 40:=⟨h.pw,h.oth,h.res,Nat.le_refl _,hP⟩
def OrdR(w:World)(t:Lfc.Ord)(v:Value)(w':World):Prop:=OrdVP (fun b=>w.heap.size≤b) w' t v
end Go.Proofs.YthajalgkjonaaaaGreatDoor
