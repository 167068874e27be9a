/- Parts of the proof that no input makes the law false: PaLsB, PaBns, PaTrs, PaWf, OrRow, OrMv, PaTape. -/
import Derived.Deep.DrawnRows
import Derived.Test.YthajalgkjonaaaaGreatDoorBxAU
set_option linter.unusedVariables false
set_option linter.unusedSimpArgs false
set_option maxRecDepth 100000
set_option maxHeartbeats 32000000
namespace Go.Proofs.YthajalgkjonaaaaGreatDoor
section
open Go.RowKit
structure LsF(w0 W:World)(P I base:Nat)(G:Hd)(p:Lfc.PE)(k:Nat)(cs:Array Value)(j:Nat)(e:TypeId)(sz n:Nat)(row:List Value)(A:Option Addr)(c:Nat):Prop where
 f:ItF w0 W P I G p k (cs.setIfInBounds j (.slice A n c))
 own:W.ownsRow base e sz (.slice A n c) n row
 offV:G.offV p (.slice A n c)
theorem LsF.push{w0 W W1 w2 w3:World}{P I base:Nat}{G:Hd}{p:Lfc.PE}{k k1:Nat}{cs:Array Value}{j:Nat}{e:TypeId}{sz n:Nat}{row row':List Value}{A A':Option Addr}{c c':Nat}(h:LsF w0 W P I base G p k cs j e sz n row A c)
  (hj:j<22) (hP:P<base) (hI:I<base) (hb:w0.heap.size≤base) (g1:PW W1 P G p k1) (o1:Oth P W W1) (b2:Below W1.heap.size W1 w2)
  (hown3:w3.ownsRow base e sz (.slice A' (n+1) c') (n+1) row') (hg:w2.grownBy w3 (Value.slice A n c).ownBlock) (hl:(Value.slice A' (n+1) c').ownBlock=(Value.slice A n c).ownBlock∨(Value.slice A' (n+1) c').ownBlock=some w2.heap.size) :
  (w3.cell? ⟨I,j,none⟩=some (.slice A n c)∧w3.frozen? ⟨I,j,none⟩=false)∧LsF w0 (w3.setCell ⟨I,j,none⟩ (.slice A' (n+1) c')) P I base G p k1 cs j e sz (n+1) row' A' c'∧Pushed I base e sz n row' (.slice A n c) (.slice A' (n+1) c') W1 (w3.setCell ⟨I,j,none⟩ (.slice A' (n+1) c')):=by
 have hIl:=h.f.lt;have hPl:=h.f.pw.lt;have hv0:∀b,(Value.slice A n c).ownBlock=some b→base≤b∧b<W.heap.size:=fun b hb=>h.own.lt b hb;have hsz:(cs.setIfInBounds j (.slice A n c)).size=22:=h.f.sz;have hcs:cs.size=22:=by simpa using hsz
 obtain⟨q1,q2,hp⟩:=pushed (j:=j) h.f.it h.own hI h.f.ne o1 b2 hown3 hg hl;obtain⟨hpw,hov⟩:=hp.pw g1 h.f.off h.offV h.f.ne.symm (fun e=>by have:=(hv0 P e.symm).1;omega);have e1:(cs.setIfInBounds j (.slice A n c)).setIfInBounds j (.slice A' (n+1) c')=cs.setIfInBounds j (.slice A' (n+1) c'):=by
  apply Array.ext_getElem?;intro i;simp only[Array.getElem?_setIfInBounds,Array.size_setIfInBounds];split <;> simp_all
 rw[e1] at q2;refine⟨⟨?_,zF q1 j⟩,⟨⟨hpw,q2,h.f.ne,h.f.off,hp.oth2 h.f.oth o1 (fun b hb=>(hv0 b hb).1) hb,by simpa using hcs⟩,hp.own,hov⟩,hp⟩;rw[zC q1 j,Array.getElem?_setIfInBounds];simp[hcs,hj]
theorem LsF.cell{w0 W:World}{P I base:Nat}{G:Hd}{p:Lfc.PE}{k:Nat}{cs:Array Value}{j:Nat}{e:TypeId}{sz n:Nat}{row:List Value}{A:Option Addr}{c:Nat}(h:LsF w0 W P I base G p k cs j e sz n row A c)(hj:j<22){w':World}(o:Oth P W w'):w'.cell? ⟨I,j,none⟩=some (.slice A n c):=by
 have hcs:cs.size=22:=by simpa using h.f.sz
 rw[zC (o.heap h.f.it h.f.ne) j,Array.getElem?_setIfInBounds];simp[hcs,hj]
theorem LsF.start{w0 W:World}{P I base:Nat}{G:Hd}{p:Lfc.PE}{k:Nat}{cs:Array Value}{j:Nat}{e:TypeId}{sz:Nat}(h:ItF w0 W P I G p k cs)(hc:cs.setIfInBounds j (.slice none 0 0)=cs):LsF w0 W P I base G p k cs j e sz 0 [] none 0 :=
 ⟨by rw[hc];exact h,World.ownsRow_nil _ _ _ _,fun J hJ=>(by cases hJ)⟩
theorem LsF.call{w0 W W1:World}{P I base:Nat}{G:Hd}{p:Lfc.PE}{k k1:Nat}{cs:Array Value}{j:Nat}{e:TypeId}{sz n:Nat}{row:List Value}{A:Option Addr}{c:Nat}(h:LsF w0 W P I base G p k cs j e sz n row A c)(hP:P<base)(g1:PW W1 P G p k1)(o1:Oth P W W1):LsF w0 W1 P I base G p k1 cs j e sz n row A c :=
 ⟨h.f.call g1 o1,h.own.kept o1 (Or.inr (fun e=>by have:=(h.own.lt P e).1;omega)),h.offV⟩
theorem strs_own{w:World}{base c:Nat}{A:Option Addr}{q:List (List UInt8)}{n:Nat}(h:w.ownsRow base 9 1 (.slice A n c) n (q.map S))(hn:n=q.length):StrsAt w A q:=fun hne=>by
 rcases h.2 with⟨_,h0⟩ | ⟨g,cap,cur,hv,hbg,hg,_⟩
 ·exact absurd (Zz (by omega)) hne
 have hv':=hv;injection hv' with e1 _ e3;subst e1 e3;refine⟨g,0,rfl,zL hg,fun k hk=>?_⟩;have:=h.cells (g:=g) rfl k (S q[k]) (by simp[hk]);rw[show(⟨g,0,none⟩:Addr).add k=⟨g,0+k,none⟩ by unfold Addr.add;split <;> simp_all] at this;exact this
theorem nums_own{w:World}{base c:Nat}{A:Option Addr}{q:List Int}{n:Nat}(h:w.ownsRow base 3 1 (.slice A n c) n (q.map fun i=>.int .i64 i))(hn:n=q.length):NumsAt w A q:=fun hne=>by
 rcases h.2 with⟨_,h0⟩ | ⟨g,cap,cur,hv,hbg,hg,_⟩
 ·exact absurd (Zz (by omega)) hne
 have hv':=hv;injection hv' with e1 _ e3;subst e1 e3;refine⟨g,0,rfl,zL hg,fun k hk=>?_⟩;have:=h.cells (g:=g) rfl k (.int .i64 q[k]) (by simp[hk]);rw[show(⟨g,0,none⟩:Addr).add k=⟨g,0+k,none⟩ by unfold Addr.add;split <;> simp_all] at this;exact this
theorem own_cap{w:World}{base:Nat}{e:TypeId}{sz n c:Nat}{A:Option Addr}{xs:List Value}(h:w.ownsRow base e sz (.slice A n c) n xs):n≤c:=by
 rcases h.2 with⟨_,h0⟩ | ⟨g,cap,cur,hv,hbg,hg,hnc,_⟩
 ·omega
 injection hv with _ _ e3;omega
theorem own_stays{w:World}{base lo:Nat}{e:TypeId}{sz n c:Nat}{A:Option Addr}{xs:List Value}(h:w.ownsRow base e sz (.slice A n c) n xs)(hlo:lo≤base):Stays (fun b=>lo≤b) w (fun V=>V.ownsRow base e sz (.slice A n c) n xs):=fun w' h1 h2=>by
 refine⟨h.1,?_⟩;rcases h.2 with e | ⟨g,cap,cur,hv,hbg,hg,r⟩
 ·exact .inl e
 exact .inr ⟨g,cap,cur,hv,hbg,(h2 g (by omega) (zL hg)).trans hg,r⟩
end
section
open Go.RowKit _root_.Lfc
def BRow(q:Nat→Prop)(w:World):List Bnd→List Value→Prop
 |[],xs=>xs=[]
 |x :: r,xs=>∃v0 v1 v2 v3 ys,xs=S x.1 :: v0 :: v1 :: v2 :: v3 :: ys∧x.1.length≤1000000∧TreeP q w x.2 v0 v1 v2 v3∧BRow q w r ys
theorem BRow.keep{q q':Nat→Prop}{w w':World}(hk:∀b,q b→b<w.heap.size→w'.heap[b]?=w.heap[b]?)(hs:w.heap.size≤w'.heap.size)(hq:∀b,b<w.heap.size→q b→q' b):∀{l:List Bnd}{xs:List Value},BRow q w l xs→BRow q' w' l xs
 |[],xs,h=>by rw[BRow] at h ⊢;exact h
 |x :: r,xs,h=>by
  rw[BRow] at h ⊢;obtain⟨v0,v1,v2,v3,ys,rfl,hn,ht,hr⟩:=h;exact⟨v0,v1,v2,v3,ys,rfl,hn,TreeP.keep hk hs hq _ _ _ _ _ ht,hr.keep hk hs hq⟩
theorem BRow.append{q:Nat→Prop}{w:World}{m:List Bnd}{ys:List Value}(h':BRow q w m ys):∀{l:List Bnd}{xs:List Value},BRow q w l xs→BRow q w (l++m) (xs++ys)
 |[],xs,h=>by rw[BRow] at h;subst h;exact h'
 |x :: r,xs,h=>by
  rw[BRow] at h;obtain⟨v0,v1,v2,v3,zs,rfl,hn,ht,hr⟩:=h;rw[List.cons_append,BRow];exact⟨v0,v1,v2,v3,zs++ys,rfl,hn,ht,BRow.append h' hr⟩
theorem BRow.one{q:Nat→Prop}{w:World}{x:Bnd}{v0 v1 v2 v3:Value}(hn:x.1.length≤1000000)(h:TreeP q w x.2 v0 v1 v2 v3):BRow q w [x] [S x.1,v0,v1,v2,v3]:=by
 rw[BRow];exact⟨v0,v1,v2,v3,[],rfl,hn,h,by rw[BRow]⟩
theorem BRow.len{q:Nat→Prop}{w:World}:∀{l:List Bnd}{xs:List Value},BRow q w l xs→xs.length=5*l.length
 |[],xs,h=>by rw[BRow] at h;subst h;rfl
 |x :: r,xs,h=>by
  rw[BRow] at h;obtain⟨v0,v1,v2,v3,ys,rfl,_,_,hr⟩:=h;have:=hr.len;simp;omega
theorem BRow.lie{q:Nat→Prop}{w:World}{g:Nat}:∀{l:List Bnd}{xs:List Value}{o:Nat},BRow q w l xs→(∀k u,xs[k]?=some u→w.cell? ⟨g,o+k,none⟩=some u)→∀i(h:i<l.length),BndC w g (o+i*5) l[i]
 |[],xs,o,h,hc=>fun i hi=>absurd hi (Nat.not_lt_zero _)
 |x :: r,xs,o,h,hc=>by
  rw[BRow] at h;obtain⟨v0,v1,v2,v3,ys,rfl,hn,ht,hr⟩:=h;have hrec:=BRow.lie (g:=g) (o:=o+5) hr (fun k u hu=>by
   have:=hc (k+5) u (by simpa using hu);rwa[show o+(k+5)=o+5+k by omega] at this)
  intro i hi
  match i,hi with
  |0,_=>exact⟨v0,v1,v2,v3,by simpa using hc 0 _ rfl,hn,hc 1 _ rfl,hc 2 _ rfl,hc 3 _ rfl,hc 4 _ rfl,TreeP.toC _ _ _ _ _ ht⟩
  |i+1,hi =>
   have:=hrec i (by simpa using hi);rwa[show o+5+i*5=o+(i+1)*5 by omega] at this
structure BnI(w:World)(P base:Nat)(G:Hd)(p:Lfc.PE)(k:Nat)(l:List Bnd)(A:Option Addr)(c:Nat)(xs:List Value)(W:World):Prop where
 pw:PW W P G p k
 le:k≤p.toks.length
 oth:Oth P w W
 own:W.ownsRow w.heap.size 72 5 (.slice A l.length c) l.length xs
 row:BRow (fun b=>w.heap.size≤b∧some b≠(Value.slice A l.length c).ownBlock) W l xs
 pos:w.heap.size=base
theorem BnI.step{w W W':World}{P base:Nat}{G:Hd}{p:Lfc.PE}{k k':Nat}{l:List Bnd}{A:Option Addr}{c:Nat}{xs:List Value}(h:BnI w P base G p k l A c xs W)(hP:P<w.heap.size)(h':PW W' P G p k')(hk:k'≤p.toks.length)(o:Oth P W W'):BnI w P base G p k' l A c xs W':=by
 refine⟨h',hk,h.oth.trans o,h.own.kept o (Or.inr (fun e=>by have:=(h.own.lt P e).1;omega)),?_,h.pos⟩;exact h.row.keep (fun b hb hlt=>o.block b hlt (fun e=>by have:=zO e;have:=hb.1;omega)) o.size (fun _ _ h=>h)
theorem BnI.push{w W w1 w2 w3:World}{P base k0 k k1:Nat}{G:Hd}{p:Lfc.PE}{l:List Bnd}{A A':Option Addr}{c c':Nat}{xs:List Value}{n:List UInt8}{u:Raw}{v0 v1 v2 v3:Value}(h:BnI w P base G p k l A c xs W)(h0:PW w P G p k0)(h1:PW w1 P G p k1)(hk1:k1≤p.toks.length)(o1:Oth P W w1)(hn:n.length≤1000000)
  (ht:TreeP (fun b=>W.heap.size≤b) w1 u v0 v1 v2 v3) (b2:Below w1.heap.size w1 w2) (hown:w3.ownsRow w.heap.size 72 5 (.slice A' (l.length+1) c') (l.length+1) (xs++[S n,v0,v1,v2,v3])) (hg:w2.grownBy w3 (Value.slice A l.length c).ownBlock) (hl:(Value.slice A' (l.length+1) c').ownBlock=(Value.slice A l.length c).ownBlock∨(Value.slice A' (l.length+1) c').ownBlock=some w2.heap.size) :
  BnI w P base G p k1 (l++[(n,u)]) A' c' (xs++[S n,v0,v1,v2,v3]) w3:=by
 have hs1:=o1.size;have hs2:=b2.size;have hs3:=hg.size;have hs0:=h.oth.size;have hP:=h0.lt;obtain⟨v,hv'⟩:∃v,(Value.slice A l.length c)=v:=⟨_,rfl⟩;have hw:=h.own;have hrow:=h.row;rw[hv'] at hg hl hrow;rw[hv'] at hw;have hv:∀b,v.ownBlock=some b→w.heap.size≤b∧b<W.heap.size:=fun b hb=>hw.lt b hb;have hbel:∀j,j<w1.heap.size→some j≠v.ownBlock→w3.heap[j]?=w1.heap[j]?:=fun j hj hne=>(hg.block j (by omega) hne).trans (b2.block j hj);have o3:Oth P w w3:=⟨hg.os.trans (b2.os.trans (o1.os.trans h.oth.os)),hg.tape.trans (b2.tape.trans (o1.tape.trans h.oth.tape)),hg.output.trans (b2.output.trans (o1.output.trans h.oth.output)),by omega,fun j hj hne=>by
  rw[hbel j (by omega) (fun e=>by have:=(hv j e.symm).1;omega),o1.block j (by omega) hne];exact h.oth.block j hj hne⟩
 have hl4:(l++[(n,u)]).length=l.length+1:=by simp
 have hq:∀b,b<w1.heap.size→some b≠v.ownBlock→some b≠(Value.slice A' (l++[(n,u)]).length c').ownBlock:=fun b hb hn=>by
  rw[hl4];rcases hl with e | e
  ·rw[e];exact hn
  rw[e];intro e';have:=zO e';omega
 refine⟨h0.to o3 ((hbel P (by omega) (fun e=>by have:=(hv P e.symm).1;omega)).trans h1.1),hk1,o3,?_,?_,h.pos⟩
 ·rw[hl4];exact hown
 refine BRow.append (BRow.one (x:=(n,u)) hn (TreeP.keep (w:=w1) (fun b hb hlt=>hbel b hlt (fun e=>by have:=(hv b e.symm).2;omega)) (by omega) (fun b hlt hb=>⟨by omega,hq b hlt (fun e=>by have:=(hv b e.symm).2;omega)⟩) _ _ _ _ _ ht)) ?_;exact hrow.keep (fun b hb hlt=>(hbel b (by omega) hb.2).trans (o1.block b hlt (fun e=>by have:=zO e;have:=hb.1;omega))) (by omega) (fun b hlt hb=>⟨hb.1,hq b (by omega) hb.2⟩)
theorem BnI.stays{w W:World}{P base:Nat}{G:Hd}{p:Lfc.PE}{k:Nat}{l:List Bnd}{A:Option Addr}{c:Nat}{xs:List Value}(h:BnI w P base G p k l A c xs W):Stays (fun b=>w.heap.size≤b) W (fun V=>BndsAt V A l∧l.length≤c):=fun V h1 h2=>by
 have hown:=own_stays h.own (zN _) V h1 h2;have hrow:=h.row.keep (w':=V) (q':=fun _=>True) (fun b hb hlt=>h2 b hb.1 hlt) h1 (fun _ _ _=>trivial);refine⟨fun hne=>?_,own_cap hown⟩;rcases hown.2 with⟨_,h0⟩ | ⟨g,cap,cur,hv,hbg,hg,_⟩
 ·exact absurd (Zz h0) hne
 have hv':=hv;injection hv' with e1 _ e3;subst e1 e3;refine⟨g,0,rfl,zL hg,hrow.lie fun k u hu=>?_⟩;have:=hown.cells (g:=g) rfl k u hu;rwa[show(⟨g,0,none⟩:Addr).add k=⟨g,0+k,none⟩ by unfold Addr.add;split <;> simp_all] at this
structure BxF(W0 W:World)(P X:Nat)(G:Hd)(p:Lfc.PE)(k:Nat)(cs:Array Value)(ty:TypeId):Prop where
 pw:PW W P G p k
 oth:Oth P W0 W
 box:W.heap[X]?=some (.cells cs ty (0,0))
 lt:W0.heap.size≤X
 par:P<W0.heap.size
theorem BxF.step{W0 W W':World}{P X k k':Nat}{G:Hd}{p:Lfc.PE}{cs:Array Value}{ty:TypeId}(h:BxF W0 W P X G p k cs ty)(h':PW W' P G p k')(o:Oth P W W'):BxF W0 W' P X G p k' cs ty:=by
 have:=h.lt;have:=h.par;exact⟨h',h.oth.trans o,o.heap h.box (by omega),h.lt,h.par⟩
theorem BxF.start{W0:World}{P k:Nat}{G:Hd}{p:Lfc.PE}(h:PW W0 P G p k)(cs:Array Value)(ty:TypeId):BxF W0 (W0.alloc (.cells cs ty)) P W0.heap.size G p k cs ty :=
 have b:Below W0.heap.size W0 (W0.alloc (.cells cs ty)):=(zB _ _).alloc (zN _) _
 ⟨h.below b,zE b,zW _ _,zN _,h.lt⟩
theorem Oth.set4{W s1 s2 s3 s4:World}{X a1 a2 a3 a4:Nat}{v1 v2 v3 v4:Value}(e1:W.setCell ⟨X,a1,none⟩ v1=s1)(e2:s1.setCell ⟨X,a2,none⟩ v2=s2)(e3:s2.setCell ⟨X,a3,none⟩ v3=s3)(e4:s3.setCell ⟨X,a4,none⟩ v4=s4):Oth X W s4:=by
 subst e1 e2 e3 e4;exact(((Oth.set _ _).trans (Oth.set _ _)).trans (Oth.set _ _)).trans (Oth.set _ _)
theorem BxF.set{W0 W:World}{P X k:Nat}{G:Hd}{p:Lfc.PE}{cs:Array Value}{ty:TypeId}{kz:Nat}(h:BxF W0 W P X G p k cs ty)(hG:PW W0 P G p kz)(j:Nat)(v:Value)(hj:j<cs.size) :
  ∃s u,W.setCell ⟨X,j,none⟩ v=s∧W.cell? ⟨X,j,none⟩=some u∧W.frozen? ⟨X,j,none⟩=false∧Hid (BxF W0 s P X G p k (cs.setIfInBounds j v) ty):=by
 refine⟨_,cs[j],rfl,(zC h.box j).trans (Array.getElem?_eq_getElem _),zF h.box j,zH ?_⟩;have h1:=h.lt;have h2:=h.par;have o:Oth X W (W.setCell ⟨X,j,none⟩ v):=Oth.set _ _;have o':Oth P W0 (W.setCell ⟨X,j,none⟩ v):=h.oth.over o h1;refine⟨hG.to o' ((o.block P h.pw.lt (fun e=>by have:=zO e;omega)).trans h.pw.1),o',by simp[World.setCell,zM,h.box],h1,h2⟩
theorem BRow.ones{q:Nat→Prop}{w:World}:∀{l:List Bnd}{xs:List Value},BRow q w l xs→∀u∈xs,u.oneCell'=true
 |[],xs,h,u,hu=>by rw[BRow] at h;subst h;cases hu
 |x :: r,xs,h,u,hu=>by
  rw[BRow] at h;obtain⟨v0,v1,v2,v3,ys,rfl,hn,ht,hr⟩:=h;obtain⟨k,n,p,ts,A,c,_,hv,_⟩:=TreeVP.parts4 ⟨v0,v1,v2,v3,rfl,ht⟩;injection hv with hv;have hv2:v0=.int .i64 k∧v1=S n∧v2=.int .i64 p∧v3=.slice A ts.length c:=by simpa using hv
  obtain⟨rfl,rfl,rfl,rfl⟩:=hv2;rcases List.mem_cons.1 hu with rfl | hu
  ·rfl
  rcases List.mem_cons.1 hu with rfl | hu
  ·rfl
  rcases List.mem_cons.1 hu with rfl | hu
  ·rfl
  rcases List.mem_cons.1 hu with rfl | hu
  ·rfl
  rcases List.mem_cons.1 hu with rfl | hu
  ·rfl
  exact hr.ones u hu
theorem BRow.get{q:Nat→Prop}{w:World}:∀{l:List Bnd}{xs:List Value},BRow q w l xs→∀k(h:k<l.length),∃kd nm p us B c,l[k].2=.node kd nm p us∧xs[k*5]?=some (S l[k].1)∧xs[k*5+1]?=some (.int .i64 kd)∧xs[k*5+2]?=some (S nm)∧xs[k*5+3]?=some (.int .i64 p)∧xs[k*5+4]?=some (.slice B us.length c)∧TreeP q w l[k].2 (.int .i64 kd) (S nm) (.int .i64 p) (.slice B us.length c)
 |[],xs,h,k,hk=>absurd hk (Nat.not_lt_zero _)
 |x :: r,xs,h,k,hk=>by
  rw[BRow] at h;obtain⟨v0,v1,v2,v3,ys,rfl,hn,ht,hr⟩:=h
  match k,hk with
  |0,_ =>
   obtain⟨k,n,p,ts,A,c,he,hv,hp⟩:=TreeVP.parts4 ⟨v0,v1,v2,v3,rfl,ht⟩;injection hv with hv;have hv2:v0=.int .i64 k∧v1=S n∧v2=.int .i64 p∧v3=.slice A ts.length c:=(by simpa using hv);obtain⟨rfl,rfl,rfl,rfl⟩:=hv2;exact⟨k,n,p,ts,A,c,he,rfl,rfl,rfl,rfl,rfl,hp⟩
  |k+1,hk =>
   obtain⟨kd,nm,p,us,B,c,h1,h2,h3,h4,h5,h6,h7⟩:=hr.get k (by simpa using hk);refine⟨kd,nm,p,us,B,c,by simpa using h1,?_,?_,?_,?_,?_,by simpa using h7⟩
   ·rw[show(k+1)*5=k*5+5 by omega];simpa using h2
   ·rw[show(k+1)*5+1=(k*5+1)+5 by omega];simpa using h3
   ·rw[show(k+1)*5+2=(k*5+2)+5 by omega];simpa using h4
   ·rw[show(k+1)*5+3=(k*5+3)+5 by omega];simpa using h5
   rw[show(k+1)*5+4=(k*5+4)+5 by omega];simpa using h6
theorem bnds_row{w:World}{b:Nat}:∀{l:List Bnd}{o:Nat},(∀i(h:i<l.length),BndC w b (o+i*5) l[i])→∃ys,BRow (fun b=>b<w.heap.size) w l ys∧∀j u,ys[j]?=some u→w.cell? ⟨b,o+j,none⟩=some u
 |[],o,_=>⟨[],by rw[BRow],fun j u h=>by simp at h⟩
 |x :: r,o,h=>by
  obtain⟨ys,hr,hc⟩:=bnds_row (l:=r) (o:=o+5) fun i hi=>by
   have:=h (i+1) (by simpa using hi);rwa[show o+(i+1)*5=o+5+i*5 by omega] at this
  obtain⟨v0,v1,v2,v3,c0,hn,c1,c2,c3,c4,ht⟩:=h 0 (by simp);simp only[Nat.zero_mul,Nat.add_zero] at c0 c1 c2 c3 c4;refine⟨S x.1 :: v0 :: v1 :: v2 :: v3 :: ys,by rw[BRow];exact⟨v0,v1,v2,v3,ys,rfl,hn,TreeC.toP (fun b h=>h) _ _ _ _ _ ht,hr⟩,fun j u hj=>?_⟩
  match j,hj with
  |0,hj=>cases hj;exact c0
  |1,hj=>cases hj;exact c1
  |2,hj=>cases hj;exact c2
  |3,hj=>cases hj;exact c3
  |4,hj=>cases hj;exact c4
  |j+5,hj =>
   have:=hc j u (by simpa using hj);rwa[show o+5+j=o+(j+5) by omega] at this
theorem BndsAt.row{w:World}{A:Option Addr}{l:List Bnd}(h:BndsAt w A l):∃ys,BRow (fun b=>b<w.heap.size) w l ys∧ys.length=l.length*5∧(∀u∈ys,u.oneCell'=true)∧∀W,Below w.heap.size w W→l.length≠0→∃a,A=some a∧∀j u,ys[j]?=some u→W.cell? (a.add j)=some u:=by
 by_cases e:l=[]
 ·subst e;exact⟨[],by rw[BRow],rfl,by simp,fun W _ h=>absurd rfl h⟩
 obtain⟨b,o,hA,hb,hT⟩:=h e;obtain⟨xs,hr,hc⟩:=bnds_row hT;refine⟨xs,hr,by have:=hr.len;omega,hr.ones,fun W hW _=>⟨_,hA,cellsAdd fun j u hj=>?_⟩⟩;exact(hW.cell (p:=⟨b,_,none⟩) hb).trans (hc j u hj)
theorem bclone_any(q:Nat->Prop)(l:List Bnd)(A:Option Addr)(c:Nat)(w:World)(hq:∀b,q b->b<w.heap.size)(hl:l.length<=1000000000)(ys:List Value)(hr:BRow q w l ys)(hyc:l.length≠0->∃a,A=some a/\∀j u,ys[j]?=some u->w.cell? (a.add j)=some u):Calls Tryz.prog 99 #[.slice A l.length c] w fun e w'=>∃A' c',e=.returned (.slice A' l.length c')/\Hid (w'.ownsRow w.heap.size 72 5 (.slice A' l.length c') l.length ys)/\Hid (BRow q w' l ys)/\zb w w':=by
 obtain⟨i0,hi,hz0,hz1,hz2⟩:=bnd_info;by_cases hne:l=[]
 ·subst hne;rw[BRow] at hr;subst hr;refine(bclone_nil A c w).mono ?_;rintro e w'⟨A',c',rfl,ho,hb⟩;exact⟨A',c',rfl,zH ho,zH (by rw[BRow]),hb⟩
 obtain⟨a,rfl,hc⟩:=hyc (fun e=>hne (Zz e));have hyl:=hr.len;have hyo:=hr.ones;have hlm:0+l.length<=maxLen:=by unfold maxLen;omega
 have hl72:(0+l.length)*72<=140737488355328:=by omega
 have HROW:=zH hr;have hown0:(w.alloc (.cells #[] 72)).ownsRow w.heap.size 72 5 (.slice (some ⟨w.heap.size,0,none⟩) 0 0) 0 [] :=
  ⟨rfl,.inr ⟨w.heap.size,0,#[],rfl,zN _,zW _ _,zN _,by unfold maxLen;omega,rfl,rfl⟩⟩
 have HOWN:=zH hown0;have b1:zb w (w.alloc (.cells #[] 72)):=(zB _ _).alloc (zN _) _;have HC2:Hid (l.length≠0->∃a',some a=some a'/\∀j u,ys[j]?=some u->(w.alloc (.cells #[] 72)).cell? (a'.add j)=some u):=zH fun _=>⟨a,rfl,fun j u hj=>by
  have h1:=hc j u hj;have h2:(a.add j).block<w.heap.size:=by
   rcases Nat.lt_or_ge (a.add j).block w.heap.size with h3 | h3
   ·exact h3
   unfold World.cell? at h1;rw[Array.getElem?_eq_none h3] at h1;cases h1
  rw[World.cell?_of_block (zA w _ _ h2)];exact h1⟩
 have HYL:Hid (ys.length=l.length*5):=zH (by omega);have HQ:=zH hq;have hnil:∀W:World,(binOp .eql 35 (.slice (some a) l.length c) zS).run Tryz.prog W=.ok (.bool false) W:=fun _=>rfl;clear hr hyc hc hown0 hyl hq;go_enter Tryz.func99,Tryz.ntmps99;go_wp2_with (at_builtin;refine wpList_append_own_any _ rfl _ _ 35 rfl w.heap.size 72 i0 (.agg #[S [],zI 0,S [],zI 0,zS]) 5 72 Tryz.underlying35 hi hz0 hz1 hz2 rfl (by decide) _ _ _ rfl HOWN.o (some a) l.length c ys rfl HYL.o HC2.o hyo hlm hl72 (by simp) ?_);intro v' w2 hown2 hg2 _;obtain⟨A2,c2,rfl⟩:=own_form hown2;have HO2:=zH hown2;have b2:zb w w2:=b1.grown hg2 (by simp) (own_block_ge HOWN.o);have HR2:Hid (BRow q w2 l ys):=zH (HROW.o.keep (fun b hb _=>b2.block b (HQ.o b hb)) b2.size (fun _ _ h=>h));clear hown2 hg2;go_wp2_with fail;go_ret;exact⟨A2,c2,rfl,by simpa using HO2,HR2,b2⟩
theorem trs_at{q:Nat→Prop}{base:Nat}{W:World}{A:Option Addr}{c:Nat}{ts:List Raw}{xs:List Value}(hown:W.ownsRow base 46 4 (.slice A ts.length c) ts.length xs)(hrow:RowP q W ts xs):TreesAt W A ts:=fun hne=>by
 rcases hown.2 with⟨h1,h2⟩ | ⟨g,cap,cur,hv,hbg,hg,hnc,_,_,_⟩
 ·exact absurd (Zz h2) hne
 injection hv with e1 _ e3;subst e1 e3;exact⟨g,0,rfl,zL hg,TreesP.toC _ _ _ (hrow.lie (own_cells hown))⟩
structure TrL(w1:World)(n0:Nat)(t0:List Raw)(bs:List Bnd)(A5:Option Addr)(ys:List Value)(k:Nat)(A:Option Addr)(c:Nat)(xs:List Value)(W:World):Prop where
 len:t0.length=n0
 bel:Below w1.heap.size w1 W
 own:W.ownsRow w1.heap.size 46 4 (.slice A (n0+k) c) (n0+k) xs
 row:RowP (fun b=>b<w1.heap.size) W (t0++(bs.take k).map Prod.snd) xs
 brow:BRow (fun b=>b<w1.heap.size) W bs ys
 at_:bs≠[]→∃g o,A5=some ⟨g,o,none⟩∧g<W.heap.size∧some g≠(Value.slice A (n0+k) c).ownBlock∧∀j u,ys[j]?=some u→W.cell? ⟨g,o+j,none⟩=some u
theorem TrL.push{w1 W W2 W3:World}{n0:Nat}{t0:List Raw}{bs:List Bnd}{A5:Option Addr}{ys:List Value}{k:Nat}{A A':Option Addr}{c c':Nat}{xs:List Value}(h:TrL w1 n0 t0 bs A5 ys k A c xs W)(hk:k<bs.length){v0 v1 v2 v3:Value}(ht:TreeP (fun b=>b<w1.heap.size) W bs[k].2 v0 v1 v2 v3)(b2:Below W.heap.size W W2)
  (hown:W3.ownsRow w1.heap.size 46 4 (.slice A' (n0+k+1) c') (n0+k+1) (xs++[v0,v1,v2,v3])) (hg:W2.grownBy W3 (Value.slice A (n0+k) c).ownBlock) (hl:(Value.slice A' (n0+k+1) c').ownBlock=(Value.slice A (n0+k) c).ownBlock∨(Value.slice A' (n0+k+1) c').ownBlock=some W2.heap.size) :
  TrL w1 n0 t0 bs A5 ys (k+1) A' c' (xs++[v0,v1,v2,v3]) W3:=by
 have b3:Below w1.heap.size w1 W3:=(h.bel.trans (b2.mono h.bel.size)).grown hg (by have:=h.bel.size;have:=b2.size;omega) (own_block_ge h.own);have hs2:=b2.size;have hs3:=hg.size;have hs1:=h.bel.size;have keep:∀b,b<w1.heap.size→b<W.heap.size→W3.heap[b]?=W.heap[b]?:=fun b hb hlt=>(hg.block b (by omega) (fun e=>by have:=own_block_ge h.own b e.symm;omega)).trans (b2.block b hlt);refine⟨h.len,b3,hown,?_,h.brow.keep keep (by omega) (fun _ _ h=>h),fun hne=>?_⟩
 ·rw[Zm hk,List.map_append,←List.append_assoc];exact RowP.append (RowP.one (TreeP.keep keep (by omega) (fun _ _ h=>h) _ _ _ _ _ ht)) (h.row.keep keep (by omega) (fun _ _ h=>h))
 obtain⟨g,o,e,hgl,hgn,hc⟩:=h.at_ hne;refine⟨g,o,e,by omega,?_,fun j u hj=>?_⟩
 ·rw[show n0+(k+1)=n0+k+1 from rfl];rcases hl with e | e
  ·rw[e];exact hgn
  rw[e];intro e;have:=zO e;omega
 have h1:=hc j u hj;unfold World.cell? at h1 ⊢;simp only at h1 ⊢;rw[hg.block g (by omega) hgn,b2.block g hgl];exact h1
theorem trees_any(x:Itm)(s:IS)(w:World)(hv:ItV w x s)(hx:x.Sm):Calls Tryz.prog 47 #[.agg (itCells x s)] w fun e w'=>(∃A c,e=.returned (.slice A x.trees.length c)/\TreesAt w' A x.trees)/\zb w w':=by
 obtain⟨ir,hri,hrz0,hrz1,hrz2⟩:=raw_info;obtain⟨ib,hbi,hbz0,hbz1,hbz2⟩:=bnd_info;have hty:=hx.ty;have hva:=hx.va;have hso:=hx.so;have hpa:=hx.pa;have HT:=zH hv.ty.1;have HV:=zH hv.va.1;have HS:=zH hv.so.1;have HP:=zH hv.pa.1;obtain⟨T,hT⟩:∃T,x.trees=T:=⟨_,rfl⟩;have HX:Hid ((x.type++x.value)++(x.som++x.params).map Prod.snd=T):=zH (by rw[<-hT];simp[Itm.trees]);rw[hT];clear hx hv hT;obtain⟨kind,pos,name,type,value,⟨on,of,op⟩,som,params,blocks,fams,signs,orders,⟨lk,la,lp⟩,⟨rk,ra,rp⟩,rel,count⟩:=x;simp only at hty hva hso hpa HT HV HS HP HX ⊢;simp only[itCells,Lfc.Ord.k,Lfc.Ord.a,Lfc.Ord.ps] at HT HV ⊢;obtain⟨w1,hw1⟩:∃w1,w.alloc (.cells #[zI kind,zI (pos:Int),S name,.slice s.ty.1 type.length s.ty.2,.slice s.va.1 value.length s.va.2,S on,zI of,zI op,.slice s.so.1 som.length s.so.2,.slice s.pa.1 params.length s.pa.2,.slice s.bl.1 blocks.length s.bl.2,.slice s.fa.1 fams.length s.fa.2,.slice s.si.1 signs.length s.si.2,.slice s.od.1 orders.length s.od.2,zI lk,zI la,.slice s.le.1 lp.length s.le.2,zI rk,zI ra,.slice s.ri.1 rp.length s.ri.2,zI rel,zI count] 42)=w1:=⟨_,rfl⟩;have b1:=zG hw1;have q1:=zQ hw1;have y3:=zC q1 3;have y4:=zC q1 4;have y8:=zC q1 8;have y9:=zC q1 9;simp at y3 y4 y8 y9;clear q1;obtain⟨ys,hyr,hyl,hyo,hyc⟩:=(HV.o.below b1).row;have HYR:=zH hyr;have HYC:=zH hyc;obtain⟨ms,hmr,hml,hmo,hmc⟩:=(HS.o.below b1).row;have HMR:=zH hmr;have HMC:=zH hmc;obtain⟨zs,hzr,hzl,hzo,hzc⟩:=(HP.o.below b1).row;have HZR:=zH hzr;have HZC:=zH hzc;have CT:=zH (fun W (hb:zb w1 W)=>sclone_any (fun _=>True) type s.ty.1 s.ty.2 W (by omega) ((HT.o.below (b1.trans (hb.mono b1.size))).toP));have CT0:=zH (sclone_any (fun b=>b<w1.heap.size) type s.ty.1 s.ty.2 w1.drew (by omega) (by
  have h1:=HT.o.below b1;refine TreesAtP.keep (w:=w1) (q:=fun b=>b<w1.heap.size) (fun _ _ _=>rfl) (zN _) (fun _ _ h=>h) (fun hne=>?_);obtain⟨b,o,hA,hlt,ht⟩:=h1 hne;exact⟨b,o,hA,hlt,hlt,TreesO.toP (fun _ h=>h) _ _ _ ht⟩))
 have HTL:Hid ((type++value).length=type.length+value.length):=zH (by simp);have HLM:Hid (type.length+value.length<=maxLen/\(type.length+value.length)*56<=140737488355328):=zH ⟨by unfold maxLen;omega,by omega⟩;have HLB:Hid (som.length+params.length<=maxLen/\(som.length+params.length)*72<=140737488355328):=zH ⟨by unfold maxLen;omega,by omega⟩;have HYL:=zH hyl;have HZL:=zH hzl;clear hyr hyc CT hyl hzr hzc hzl hmr hmc hml hmo;go_enter Tryz.func47,Tryz.ntmps47;go_upto_region 1 with fail;clear hw1;go_region_law (first
  |(go_simp;go_at_call 98;refine CT0.o.mono ?_;rintro e w2⟨A2,c2,xs,rfl,ho2,hr2,b2'⟩;have b2:=((zB w1.heap.size w1).drew).trans b2';have t4:=(b2.cell (p:=⟨w.heap.size,4,none⟩) (lt_of_cell' y4)).trans y4;have t8:=(b2.cell (p:=⟨w.heap.size,8,none⟩) (lt_of_cell' y8)).trans y8;have t9:=(b2.cell (p:=⟨w.heap.size,9,none⟩) (lt_of_cell' y9)).trans y9;have s2:=b2.size)
  |(refine step_append_own_any _ (by rfl) _ _ 32 (by rfl) w1.heap.size 46 ir (.agg #[zI 0,S [],zI 0,zS]) 4 56 Tryz.underlying32 hri hrz0 hrz1 hrz2 rfl (by decide) _ _ _ (by rfl) ho2.o s.va.1 value.length s.va.2 ys (by rfl) HYL.o (HYC.o _ b2) hyo HLM.o.1 HLM.o.2 s2 ?_;intro v3 w3 hown3 hg3 hat3;obtain⟨A3,c3,rfl⟩:=own_form hown3))
 all_goals
  have b3:zb w1 w3:=b2.grown hg3 s2 (own_block_ge ho2.o);have HR3:Hid (RowP (fun b=>b<w1.heap.size) w3 (type++value) (xs++ys)):=zH (RowP.append (HYR.o.keep (fun b hb hlt=>b3.block b hlt) b3.size (fun _ _ h=>h)) (hr2.o.keep (fun b hb _=>hg3.block b (by have:=b2.size;have:=hb.1;omega) (fun e=>by have:=own_block_ge ho2.o b e.symm;have:=hb.1;omega)) hg3.size (fun _ _ h=>h.1)));have HO3:=zH hown3;have u8:=(b3.cell (p:=⟨w.heap.size,8,none⟩) (lt_of_cell' y8)).trans y8;have u9:=(b3.cell (p:=⟨w.heap.size,9,none⟩) (lt_of_cell' y9)).trans y9;have CB:=zH (bclone_any (fun b=>b<w1.heap.size) som s.so.1 s.so.2 w3.drew (fun b hb=>Zl hb b3.size) (by omega) ms (HMR.o.keep (fun b hb hlt=>b3.drew.block b hlt) b3.drew.size (fun _ _ h=>h)) (HMC.o _ b3.drew));have s3:=b3.size;clear hown3 hg3 hat3 t4 t8 t9 ho2 hr2 b2;go_upto_region 2 with fail;go_region_law (first
   |(go_simp;go_at_call 99;refine CB.o.mono ?_;rintro e w4⟨A4,c4,rfl,ho4,hr4,b4'⟩;have b4:=((zB w3.heap.size w3).drew).trans b4';have t9:=(b4.cell (p:=⟨w.heap.size,9,none⟩) (lt_of_cell' u9)).trans u9;have s4:=b4.size)
   |(refine step_append_own_any _ (by rfl) _ _ 35 (by rfl) w3.heap.size 72 ib (.agg #[S [],zI 0,S [],zI 0,zS]) 5 72 Tryz.underlying35 hbi hbz0 hbz1 hbz2 rfl (by decide) _ _ _ (by rfl) ho4.o s.pa.1 params.length s.pa.2 zs (by rfl) HZL.o (HZC.o _ (b3.trans (b4.mono s3))) hzo HLB.o.1 HLB.o.2 s4 ?_;intro v5 w5 hown5 hg5 hat5;obtain⟨A5,c5,rfl⟩:=own_form hown5))
  all_goals
   have b5:zb w3 w5:=b4.grown hg5 s4 (own_block_ge ho4.o);have HI5:Hid (TrL w1 (type.length+value.length) (type++value) (som++params) A5 (ms++zs) 0 A3 c3 (xs++ys) w5):=zH (by
    have b15:=b3.trans (b5.mono s3);refine⟨HTL.o,b15,own_stays HO3.o (zN _) w5 b5.size (fun b _ hlt=>b5.block b hlt),?_,?_,fun hne=>?_⟩
    ·simpa using HR3.o.keep (fun b hb hlt=>b5.block b hlt) b5.size (fun _ _ h=>h)
    ·exact BRow.append (HZR.o.keep (fun b hb hlt=>b15.block b hlt) b15.size (fun _ _ h=>h)) (hr4.o.keep (fun b hb hlt=>hg5.block b hlt (fun e=>by have:=own_block_ge ho4.o b e.symm;have h3:w3.drew.heap.size=w3.heap.size:=rfl;have h4:b<w1.heap.size:=hb;omega)) hg5.size (fun _ _ h=>h))
    rcases hown5.2 with⟨_,h0⟩ | ⟨g,cap,cur,hv,hbg,hg,_⟩
    ·exact absurd (Zz (by simpa using h0)) hne
    have hv':=hv;injection hv' with e1 _ e3;subst e1 e3;refine⟨g,0,rfl,zL hg,fun e=>?_,own_cells hown5⟩;have h1:=(HO3.o.lt g (by simpa using e.symm)).2;have h2:=own_block_ge hown5 g rfl;omega)
   have HB5:=zH b1;have HBS:Hid ((som++params).length=som.length+params.length):=zH (by simp);have hmlim:som.length+params.length<=200000:=(by omega);have HMI:Hid (∃z:Int,(som.length:Int)+(params.length:Int)=z/\z=((som.length+params.length:Nat):Int)):=zH ⟨_,rfl,by simp⟩;have hnlim:type.length+value.length<=200000:=(by omega);clear hown5 hg5 hat5 t9 ho4 b4 HR3 HO3 hr4 CB u8 u9 HTL HMR HMC HZR HZC HYR HYC HZL HYL HLM HLB hty hva hso hpa b5 b3 s3 s4 s2 hyo hzo;generalize som++params=bs at *;generalize type++value=t0 at *;generalize ms++zs=rs at *;generalize som.length+params.length=m at *;generalize type.length+value.length=n0 at *;generalize xs++ys=xs0 at *;go_wp2_with fail;refine nrm ?_;go_loopw [3,19] (fun v i wr=>∃(k:Nat)(A:Option Addr)(c:Nat)(xs:List Value),k<=m/\i=zI k/\v=.slice A (n0+k) c/\Hid (TrL w1 n0 t0 bs A5 rs k A c xs wr)) (fun _ i _=>m-(intOf i).toNat);case atStart=>exact⟨0,A3,c3,xs0,by omega,rfl,rfl,HI5⟩
   clear HI5;obtain⟨k,A,c,xs,hk,rfl,rfl,HI⟩:=hrel;by_cases hlt:k<m
   ·have hkb:k<bs.length:=(by rw[HBS.o];exact hlt);obtain⟨g,o,rfl,hg,hgn,hcl⟩:=HI.o.at_ (by intro e;rw[e] at hkb;simp at hkb);obtain⟨kd,nm,p,us,B,d,he,d0,d1,d2,d3,d4,hT⟩:=HI.o.brow.get k hkb;have e0:=hcl _ _ d0;have e1:=hcl _ _ d1;have e2:=hcl _ _ d2;have e3:=hcl _ _ d3;have e4:=hcl _ _ d4;simp only[<-Nat.add_assoc] at e0 e1 e2 e3 e4;have HT6:=zH hT;have HKB:=zH hkb;generalize hnk:bs[k].1=nk at *;have hi0:=zP k;have hi1:(k:Int)<(m:Int):=(by omega);have hlt2:decide ((k:Int)<(som.length:Int)+(params.length:Int))=true:=(by obtain⟨z,e1,e2⟩:=HMI.o;rw[e1,e2];simpa using hlt);have HOW:=zH HI.o.own;have HS1:=zH HI.o.bel.size;have HLM:Hid (n0+k+1<=maxLen/\(n0+k+1)*56<=140737488355328):=zH ⟨by unfold maxLen;omega,by omega⟩;obtain⟨w6,hw6⟩:∃w6,wr.alloc (.cells #[S nk,zI kd,S nm,zI p,.slice B us.length d] 72)=w6:=⟨_,rfl⟩;have b6:=zG hw6;have q6:=zQ hw6;have z1:=zC q6 1;have z2:=zC q6 2;have z3:=zC q6 3;have z4:=zC q6 4;simp at z1 z2 z3 z4;have HOW6:=zH (own_stays HOW.o (zN _) w6 b6.size (fun b _ hlt=>b6.block b hlt));have hs6:=b6.size;clear hnk d0 d1 d2 d3 d4 hcl hgn hT he q6;go_upto_region 4 with fail;go_upto_region 5 with fail;go_wp2_with (at_builtin;refine wpList_append_own_at _ rfl _ _ 32 rfl w1.heap.size 46 ir (.agg #[zI 0,S [],zI 0,zS]) 4 56 Tryz.underlying32 hri hrz0 hrz1 hrz2 rfl (by decide) _ _ _ rfl (HOW6.o.alloc _) ⟨w6.heap.size,0,none⟩ 1 1 [zI kd,S nm,zI p,.slice B us.length d] rfl rfl (fun j u h=>cells_new w6 _ rfl [zI kd,S nm,zI p,.slice B us.length d] 46 j u h) (by intro v hv;simp at hv;rcases hv with rfl | rfl | rfl | rfl <;> rfl) HLM.o.1 HLM.o.2 (alloc_le (zR HS1.o hs6)) ?_);intro v7 w7 hown7 hg7 _ hl7;obtain⟨A7,c7,rfl⟩:=own_form hown7;have HI7:Hid (TrL w1 n0 t0 bs (some ⟨g,o,none⟩) rs (k+1) A7 c7 (xs++[zI kd,S nm,zI p,.slice B us.length d]) w7):=zH (TrL.push HI.o HKB.o HT6.o (b6.alloc b6.size _) hown7 hg7 (by simpa using hl7));clear hown7 hg7 hl7 HI HT6 HOW HOW6 z1 z2 z3 z4 hw6;go_wp2_with fail;refine nrm ?_;go_roundw;case rel=>exact⟨k+1,A7,c7,_,by omega,by go_num,rfl,HI7⟩
    case measure=>simp[intOf];omega
   have hlt2:decide ((k:Int)<(som.length:Int)+(params.length:Int))=false:=(by obtain⟨z,e1,e2⟩:=HMI.o;rw[e1,e2];simpa using hlt);have HF:Hid ((∃A' c',Ending.returned (.slice A (n0+k) c)=Ending.returned (Value.slice A' T.length c')/\TreesAt wr A' T)/\zb w wr):=zH (by
    have hkm:k=m:=(by omega);have hbs:=HBS.o;have hr:=HI.o.row;rw[List.take_of_length_le (by omega),HX.o] at hr;have hlen:T.length=n0+k:=(by rw[<-HX.o,Zq,HI.o.len,List.length_map];omega);rw[hlen];have ho:=HI.o.own;rw[<-hlen] at ho;refine⟨⟨A,c,rfl,?_⟩,HB5.o.trans (HI.o.bel.mono HB5.o.size)⟩;exact(trs_at ho hr))
   clear HI hlt hk;go_wp2_with fail;go_ret;exact HF.o
end
end Go.Proofs.YthajalgkjonaaaaGreatDoor
namespace Lfc
theorem MadeI.sm{x:Itm}(h:MadeI x):x.Sm where
 ty:=by have:=h.type;omega
 va:=by have:=h.value;omega
 so:=by have:=h.som.1;omega
 pa:=by have:=h.params.1;omega
 bl:=by have:=h.blocks.1;omega
 fa:=by have:=h.fams.1;omega
 si:=by have:=h.signs;omega
 od:=by have:=h.orders.1;omega
 bln:=fun n hn=>by have:=h.blocks.2 n hn;omega
 fan:=fun n hn=>by have:=h.fams.2 n hn;omega
 ors:=fun y hy=>by have:=(h.orders.2 y hy).2;omega
 les:=by have:=h.left;omega
 ris:=by have:=h.right;omega
 trs:=fun t ht=>by have:=(h.fs t ht).2.1;omega
theorem MadeI.op3{x:Itm}(h:MadeI x)(hk:x.kind=3):(x.op.fix=1∨x.op.fix=2∨x.op.fix=3∨x.op.fix=4∨x.op.fix=5)∧∃c:Nat,x.op.prec=(c:Int)∧c<100:=by
 have hb:=h.bad hk;unfold Op.bad at hb;split at hb
 ·cases hb
 rename_i h1;split at hb
 ·cases hb
 rename_i h2;simp only[Bool.or_eq_true,Bool.not_eq_true',decide_eq_true_eq,not_or] at h1 h2;obtain⟨c,hc⟩:=Int.eq_ofNat_of_zero_le (show 0≤x.op.prec by omega);exact⟨by omega,c,hc,by omega⟩
theorem MadeI.range{x:Itm}(h:MadeI x):1≤x.kind∧x.kind≤13:=by
 have hf:=h.form;unfold Itm.formedP at hf;rcases Int.lt_or_le x.kind 1 with h1 | h1
 ·iterate 10 rw[if_neg (by omega)] at hf
  cases hf
 rcases Int.lt_or_le 13 x.kind with h2 | h2
 ·iterate 10 rw[if_neg (by omega)] at hf
  cases hf
 omega
end Lfc
namespace Go.Proofs.YthajalgkjonaaaaGreatDoor
section
open Go.RowKit _root_.Lfc
theorem witem_made(y:Itm × IS)(hm:MadeI y.1):ItemC PowAt y:=by
 intro Wr w A B c d ws qs h hv hl hq;obtain⟨x,s⟩:=y;simp only at hm hv ⊢;have hv1:∀W,Below Wr w W→ItV W x s:=fun W hW=>(hv W hW).1;have hsm:=hm.sm;have hrg:=hm.range;have hf:=hm.form;have qn:x.kind≠3→x.quo qs=qs:=fun h=>by unfold Itm.quo;rw[if_neg h]
 by_cases h12:x.kind=1∨x.kind=2
 ·rw[qn (by omega)];have e:x.words qs=x.words1 qs:=by unfold Itm.words;rw[if_pos (by omega)]
  rw[e];exact(witem_cd h x s h12 hsm hv1 hl hq).mono fun e w' ⟨h1,h2⟩=>⟨h1,h2.toR⟩
 by_cases h3:x.kind=3
 ·obtain⟨hfix,pc,hpc,hp⟩:=hm.op3 h3;have e:x.words qs=[fixWord x.op.fix,dec x.op.prec.toNat,x.op.name]:=by unfold Itm.words Itm.words1;rw[if_pos (by omega),if_pos h3]
  have e2:x.quo qs=qs++[x.op.name]:=by unfold Itm.quo;rw[if_pos h3]
  rw[e,e2];clear hv hv1 hsm hrg hf qn h12 hm e e2;obtain⟨kind,pos,name,type,value,⟨on,of,op⟩,som,params,blocks,fams,signs,orders,⟨lk,la,lp⟩,⟨rk,ra,rp⟩,rel,count⟩:=x;simp only at h3 hfix hpc ⊢;subst h3 hpc;rw[show Int.toNat (pc:Int)=pc by omega];rcases hfix with rfl | rfl | rfl | rfl | rfl
  ·exact witem_opF h 1 (fixWord 1) (by decide) rfl pos name type value on pc som params blocks fams signs orders lk la lp rk ra rp rel count s hp hl hq
  ·exact witem_opF h 2 (fixWord 2) (by decide) rfl pos name type value on pc som params blocks fams signs orders lk la lp rk ra rp rel count s hp hl hq
  ·exact witem_opF h 3 (fixWord 3) (by decide) rfl pos name type value on pc som params blocks fams signs orders lk la lp rk ra rp rel count s hp hl hq
  ·exact witem_opF h 4 (fixWord 4) (by decide) rfl pos name type value on pc som params blocks fams signs orders lk la lp rk ra rp rel count s hp hl hq
  exact witem_opF h 5 (fixWord 5) (by decide) rfl pos name type value on pc som params blocks fams signs orders lk la lp rk ra rp rel count s hp hl hq
 rw[qn h3];have fin:∀{e:Ending}{w':World},(e=.returned (.tuple #[])∧WrA Wr A B d w (ws++x.words qs) qs w')→e=.returned (.tuple #[])∧WrR Wr A B w (ws++x.words qs) qs w':=fun h=>⟨h.1,h.2.toR⟩;have szb:∀b∈x.som++x.params,b.2.size≤1000000:=fun b hb=>hsm.trs b.2 (by simp only[Itm.trees,List.mem_append];exact .inr (List.mem_map_of_mem hb));unfold Itm.formedP at hf;rw[if_neg (by omega),if_neg (by omega),if_neg h3] at hf;by_cases h4:x.kind=4
 ·exact(witem_4 h x s h4 (by have:=hm.som.1;omega) (by have:=hm.params.1;omega) (fun b hb=>szb b (List.mem_append_left _ hb)) (fun b hb=>szb b (List.mem_append_right _ hb)) hv1 hl hq).mono fun _ _ h=>fin h
 rw[if_neg h4] at hf;by_cases h5:x.kind=5
 ·exact(witem_5 h x s h5 (by have:=hm.blocks.1;omega) (by have:=hm.fams.1;omega) hv1 hl hq).mono fun _ _ h=>fin h
 rw[if_neg h5] at hf;by_cases h6:x.kind=6
 ·rw[if_pos h6] at hf;simp only[Za,Bool.not_eq_true',List.any_eq_false] at hf;refine(witem_6 h x s h6 (by have:=hm.signs;omega) (fun i hi=>?_) hv1 hl hq).mono fun _ _ h=>fin h;have:=hf.1.2 i hi;unfold signBad at this;simp only[Bool.or_eq_true,Zd,not_or] at this;omega
 rw[if_neg h6] at hf;have cl:∀{W:World},Below Wr w W→∀W',Below Wr W W'→ItV W' x s:=fun hb W' hW'=>hv1 W' (hb.trans hW');by_cases h7:x.kind=7
 ·exact(witem_claim h x s (by omega) _ fun W hi hb=>wclaim_7 hi x s h7 (cl hb) hl hq).mono fun _ _ h=>fin h
 by_cases h8:x.kind=8
 ·exact(witem_claim h x s (by omega) _ fun W hi hb=>wclaim_8 hi x s h8 (cl hb) hl hq).mono fun _ _ h=>fin h
 by_cases h9:x.kind=9
 ·exact(witem_claim h x s (by omega) _ fun W hi hb=>wclaim_9 hi x s h9 (cl hb) hl hq).mono fun _ _ h=>fin h
 rw[if_neg (by omega)] at hf;have hod:(x.kind=10∨x.kind=11)→∀b∈x.orders,b.2.size≤1000∧b.2.ofm 0=true:=fun h10 b hb=>by
  rw[if_pos h10,Za] at hf;have:=(hm.orders.2 b hb).2;exact⟨by omega,((fordsF_all hf.1).1 b hb).2⟩
 by_cases h10:x.kind=10
 ·exact(witem_claim h x s (by omega) _ fun W hi hb=>wclaim_10 hi x s h10 (by have:=hm.orders.1;omega) (hod (.inl h10)) (cl hb) hl hq).mono fun _ _ h=>fin h
 by_cases h11:x.kind=11
 ·exact(witem_claim h x s (by omega) _ fun W hi hb=>wclaim_11 hi x s h11 (by have:=hm.orders.1;omega) (hod (.inr h11)) (cl hb) hl hq).mono fun _ _ h=>fin h
 rw[if_neg (by omega)] at hf;by_cases h12':x.kind=12
 ·rw[if_pos h12'] at hf;simp only[Za,Zd] at hf;exact(witem_claim h x s (by omega) _ fun W hi hb=>wclaim_12 hi x s h12' ⟨by have:=hm.left;omega,hf.1.1.1.1.2⟩ ⟨by have:=hm.right;omega,hf.1.1.1.2⟩ hf.1.1.2 hf.1.2 (cl hb) hl hq).mono fun _ _ h=>fin h
 rw[if_neg h12'] at hf;have h13:x.kind=13:=by omega
 rw[if_pos h13] at hf;simp only[Za,Zd] at hf;exact(witem_claim h x s (by omega) _ fun W hi hb=>wclaim_13 hi x s h13 hf.1.1.1 (fun t ht=>hsm.trs t (by simp[Itm.trees,ht])) hf.1.1.2 hf.1.2 (fun W' hW'=>(hv W' (hb.trans hW')).2) (cl hb) hl hq).mono fun _ _ h=>fin h
theorem formed_made(x:Itm)(s:IS)(w:World)(hm:MadeI x)(hv:ItV w x s):Calls Tryz.prog 46 #[.agg (itCells x s)] w fun e w'=>e=.returned (.bool x.formedP)∧Below w.heap.size w w':=by
 have hsm:=hm.sm;have hrg:=hm.range;have hf:=hm.form;by_cases h1:x.kind=1
 ·exact formed_const x s w h1 hsm hv
 by_cases h3:x.kind=3
 ·exact formed_op x s w h3 hsm hv
 rw[hf];have hk:x.kind=2∨x.kind=4∨x.kind=5∨x.kind=6∨x.kind=7∨x.kind=8∨x.kind=9∨x.kind=10∨x.kind=11∨x.kind=12∨x.kind=13:=by omega
 rcases hk with h | h | h | h | h | h | h | h | h | h | h
 ·exact formed_2 x s w h hsm hv hf
 ·exact formed_4 x s w h hsm hv hf
 ·exact formed_5 x s w h hsm hv hf
 ·exact formed_6 x s w h hsm hv hf
 ·exact formed_7 x s w h hsm hv hf
 ·exact formed_8 x s w h hsm hv hf
 ·exact formed_9 x s w h hsm hv hf
 ·exact formed_10 x s w h hsm hv hf
 ·exact formed_11 x s w h hsm hv hf
 ·exact formed_12 x s w h hsm hv hf
 exact formed_13 x s w h hsm hv hf
theorem format_made(l:List (Itm × IS))(A:Option Addr)(c:Nat)(w:World)(hl:l.length≤6)(hA:ItsV w A l)(hm:∀y∈l,MadeI y.1)(hp:PowAt w)(hs:4≤w.heap.size) :
  Calls Tryz.prog 10 #[.slice A l.length c] w fun e w'=>e=.returned (S (formatP (l.map Prod.fst)))∧Below w.heap.size w w':=by
 refine format_of PowAt l A c w hA (fun W hW=>hp.below hW hs) (fun y hy q=>?_) ?_ fun y hy _=>witem_made y (hm y hy)
 ·have h1:=(hm y hy).len q;have h2:=join_len (y.1.words q);refine⟨by omega,fun e=>?_⟩;have h3:=((hm y hy).eat q).2;rw[←item_fst] at e;exact h3 (List.map_eq_nil_iff.1 e)
 exact wellFormed_of l A c w (by omega) hA (fun y hy=>(hm y hy).sm) (fun y hy W hW=>formed_made y.1 y.2 W (hm y hy) hW) (fun y hy W hW=>trees_any y.1 y.2 W hW (hm y hy).sm)
end
section
open Go.RowKit
mutual
def OrdP(q:Nat→Prop)(w:World):Lfc.Ord→Value→Value→Value→Prop
 |.node k a ts,v0,v1,v2=>v0=.int .i64 k∧v1=.int .i64 a∧∃A c,v2=.slice A ts.length c∧ts.length≤c∧(ts≠[]→∃b o,A=some ⟨b,o,none⟩∧b<w.heap.size∧q b∧OrdsP q w b ts o)
def OrdsP(q:Nat→Prop)(w:World)(b:Nat):List Lfc.Ord→Nat→Prop
 |[],_=>True
 |t :: r,o=>(∃v0 v1 v2,w.cell? ⟨b,o,none⟩=some v0∧w.cell? ⟨b,o+1,none⟩=some v1∧w.cell? ⟨b,o+2,none⟩=some v2∧OrdP q w t v0 v1 v2)∧OrdsP q w b r (o+3)
end
mutual
theorem OrdP.keep{q q':Nat→Prop}{w w':World}(hk:∀b,q b→b<w.heap.size→w'.heap[b]?=w.heap[b]?)(hs:w.heap.size≤w'.heap.size)(hq:∀b,b<w.heap.size→q b→q' b):∀(t:Lfc.Ord)(v0 v1 v2:Value),OrdP q w t v0 v1 v2→OrdP q' w' t v0 v1 v2
 |.node k a ts,v0,v1,v2,h=>by
  rw[OrdP] at h ⊢;obtain⟨h0,h1,A,c,h3,h4,h5⟩:=h;refine⟨h0,h1,A,c,h3,h4,fun hne=>?_⟩;obtain⟨b,o,hA,hlt,hqb,hts⟩:=h5 hne;exact⟨b,o,hA,Zl hlt hs,hq b hlt hqb,OrdsP.keep hk hs hq ts b o hlt hqb hts⟩
theorem OrdsP.keep{q q':Nat→Prop}{w w':World}(hk:∀b,q b→b<w.heap.size→w'.heap[b]?=w.heap[b]?)(hs:w.heap.size≤w'.heap.size)(hq:∀b,b<w.heap.size→q b→q' b):∀(ts:List Lfc.Ord)(b o:Nat),b<w.heap.size→q b→OrdsP q w b ts o→OrdsP q' w' b ts o
 |[],_,_,_,_,_=>by rw[OrdsP];trivial
 |t :: r,b,o,hlt,hb,h=>by
  rw[OrdsP] at h ⊢;obtain⟨⟨v0,v1,v2,c0,c1,c2,ht⟩,hr⟩:=h;have hc:=fun j=>World.cell?_of_block (a:=⟨b,j,none⟩) (hk b hb hlt);exact⟨⟨v0,v1,v2,(hc _).trans c0,(hc _).trans c1,(hc _).trans c2,OrdP.keep hk hs hq t v0 v1 v2 ht⟩,OrdsP.keep hk hs hq r b (o+3) hlt hb hr⟩
end
mutual
theorem OrdP.toC{q:Nat→Prop}{w:World}:∀(t:Lfc.Ord)(v0 v1 v2:Value),OrdP q w t v0 v1 v2→OrdC w t v0 v1 v2
 |.node k a ts,v0,v1,v2,h=>by
  rw[OrdP] at h;rw[OrdC];obtain⟨h0,h1,A,c,h3,h4,h5⟩:=h;refine⟨h0,h1,A,c,h3,h4,fun hne=>?_⟩;obtain⟨b,o,hA,hlt,hqb,hts⟩:=h5 hne;exact⟨b,o,hA,hlt,OrdsP.toC ts b o hts⟩
theorem OrdsP.toC{q:Nat→Prop}{w:World}:∀(ts:List Lfc.Ord)(b o:Nat),OrdsP q w b ts o→OrdsO w b ts o
 |[],_,_,_=>by rw[OrdsO];trivial
 |t :: r,b,o,h=>by
  rw[OrdsP] at h;rw[OrdsO];obtain⟨⟨v0,v1,v2,c0,c1,c2,ht⟩,hr⟩:=h;exact⟨⟨v0,v1,v2,c0,c1,c2,OrdP.toC t v0 v1 v2 ht⟩,OrdsP.toC r b (o+3) hr⟩
end
def ORow(q:Nat→Prop)(w:World):List Lfc.Ord→List Value→Prop
 |[],xs=>xs=[]
 |t :: r,xs=>∃v0 v1 v2 ys,xs=v0 :: v1 :: v2 :: ys∧OrdP q w t v0 v1 v2∧ORow q w r ys
theorem ORow.keep{q q':Nat→Prop}{w w':World}(hk:∀b,q b→b<w.heap.size→w'.heap[b]?=w.heap[b]?)(hs:w.heap.size≤w'.heap.size)(hq:∀b,b<w.heap.size→q b→q' b):∀{ts:List Lfc.Ord}{xs:List Value},ORow q w ts xs→ORow q' w' ts xs
 |[],xs,h=>by rw[ORow] at h ⊢;exact h
 |t :: r,xs,h=>by
  rw[ORow] at h ⊢;obtain⟨v0,v1,v2,ys,rfl,ht,hr⟩:=h;exact⟨v0,v1,v2,ys,rfl,OrdP.keep hk hs hq t _ _ _ ht,hr.keep hk hs hq⟩
theorem ORow.append{q:Nat→Prop}{w:World}{us:List Lfc.Ord}{zs:List Value}(hz:ORow q w us zs):∀{ts:List Lfc.Ord}{xs:List Value},ORow q w ts xs→ORow q w (ts++us) (xs++zs)
 |[],xs,h=>by rw[ORow] at h;subst h;exact hz
 |t :: r,xs,h=>by
  rw[ORow] at h;obtain⟨v0,v1,v2,ys,rfl,ht,hr⟩:=h;rw[List.cons_append,ORow];exact⟨v0,v1,v2,ys++zs,by simp,ht,ORow.append hz hr⟩
theorem ORow.one{q:Nat→Prop}{w:World}{t:Lfc.Ord}{v0 v1 v2:Value}(h:OrdP q w t v0 v1 v2):ORow q w [t] [v0,v1,v2]:=⟨v0,v1,v2,[],rfl,h,rfl⟩
def OCellsAt(w:World)(b o:Nat)(xs:List Value):Prop:=∀j u,xs[j]?=some u→w.cell? ⟨b,o+j,none⟩=some u
theorem ORow.lie{q:Nat→Prop}{w:World}{b:Nat}:∀{ts:List Lfc.Ord}{xs:List Value}{o:Nat},ORow q w ts xs→OCellsAt w b o xs→OrdsP q w b ts o
 |[],_,_,_,_=>by rw[OrdsP];trivial
 |t :: r,xs,o,h,hc=>by
  rw[ORow] at h;obtain⟨v0,v1,v2,ys,rfl,ht,hr⟩:=h;rw[OrdsP];refine⟨⟨v0,v1,v2,hc 0 _ rfl,hc 1 _ rfl,hc 2 _ rfl,ht⟩,hr.lie fun j u hj=>?_⟩;have:=hc (j+3) u (by simpa using hj);rw[show o+3+j=o+(j+3) by omega];exact this
theorem ocell_add(b j:Nat):(⟨b,0,none⟩:Addr).add j=⟨b,j,none⟩:=by
 unfold Addr.add;split <;> simp_all
theorem own_cellsO{w:World}{base:Nat}{e:TypeId}{size n g cap:Nat}{xs:List Value}(h:w.ownsRow base e size (.slice (some ⟨g,0,none⟩) n cap) n xs):OCellsAt w g 0 xs:=by
 intro j u hj;have:=h.cells (g:=g) rfl j u hj;rw[ocell_add] at this;simpa using this
def OrdsAtP(q:Nat→Prop)(w:World)(A:Option Addr)(ts:List Lfc.Ord):Prop:=ts≠[]→∃b o,A=some ⟨b,o,none⟩∧b<w.heap.size∧q b∧OrdsP q w b ts o
theorem OrdsAtP.keep{q q':Nat→Prop}{w w':World}{A:Option Addr}{ts:List Lfc.Ord}(hk:∀b,q b→b<w.heap.size→w'.heap[b]?=w.heap[b]?)(hs:w.heap.size≤w'.heap.size)(hq:∀b,b<w.heap.size→q b→q' b)(h:OrdsAtP q w A ts):OrdsAtP q' w' A ts:=fun hne=>by
 obtain⟨b,o,hA,hlt,hb,h⟩:=h hne;exact⟨b,o,hA,Zl hlt hs,hq b hlt hb,OrdsP.keep hk hs hq ts b o hlt hb h⟩
def OrdVP(q:Nat→Prop)(w:World)(t:Lfc.Ord)(v:Value):Prop:=∃v0 v1 v2,v=.agg #[v0,v1,v2]∧OrdP q w t v0 v1 v2
theorem OrdVP.toV{q:Nat→Prop}{w:World}{t:Lfc.Ord}{v:Value}(h:OrdVP q w t v):OrdV w t v:=by
 obtain⟨v0,v1,v2,rfl,h⟩:=h;exact⟨v0,v1,v2,rfl,OrdP.toC _ _ _ _ h⟩
theorem OrdVP.keep{q q':Nat→Prop}{w w':World}(hk:∀b,q b→b<w.heap.size→w'.heap[b]?=w.heap[b]?)(hs:w.heap.size≤w'.heap.size)(hq:∀b,b<w.heap.size→q b→q' b){t:Lfc.Ord}{v:Value}(h:OrdVP q w t v):OrdVP q' w' t v:=by
 obtain⟨v0,v1,v2,rfl,h⟩:=h;exact⟨v0,v1,v2,rfl,OrdP.keep hk hs hq _ _ _ _ h⟩
theorem OrdVP.mk{q:Nat→Prop}{w:World}{k a:Int}{ts:List Lfc.Ord}{A:Option Addr}{c:Nat}(hc:ts.length≤c)(h:OrdsAtP q w A ts):OrdVP q w (.node k a ts) (.agg #[.int .i64 k,.int .i64 a,.slice A ts.length c]) :=
 ⟨_,_,_,rfl,by rw[OrdP];exact⟨rfl,rfl,A,c,rfl,hc,h⟩⟩
theorem OrdVP.open_{q:Nat→Prop}{w:World}{k a:Int}{ts:List Lfc.Ord}{v:Value}(h:OrdVP q w (.node k a ts) v):∃A c,v=.agg #[.int .i64 k,.int .i64 a,.slice A ts.length c]∧OrdP q w (.node k a ts) (.int .i64 k) (.int .i64 a) (.slice A ts.length c):=by
 obtain⟨v0,v1,v2,rfl,h⟩:=h;have h':=h;rw[OrdP] at h;obtain⟨rfl,rfl,A,c,rfl,_⟩:=h;exact⟨A,c,rfl,h'⟩
theorem ord_size:(Tryz.prog.info? 40).map (·.size)=some 3:=by kernel_rfl
theorem ord_info:∃i,Tryz.prog.info? 40=some i∧i.zero=some (.agg #[.int .i64 0,.int .i64 0,.slice none 0 0])∧i.size=3∧i.bytes=40:=by
 obtain⟨i0,hi,hz0,hz1,hz2⟩:=info_parts (show(Tryz.prog.info? 40).map (fun i=>(i.zero,i.size,i.bytes))=some (some (.agg #[.int .i64 0,.int .i64 0,.slice none 0 0]),3,40) by kernel_rfl);exact⟨i0,hi,hz0,hz1,hz2⟩
theorem results_ord{fn:Func}{p:Tmp}(h:fn.results=#[.cell p 40])(tmps:Array Value)(w:World)(g:Nat)(v0 v1 v2:Value)(hp:tmps.getD p undef=.pointer (some ⟨g,0,none⟩))(hg:w.heap[g]?=some (.cells #[v0,v1,v2] 40 (0,0))) :
  (results fn tmps).run Tryz.prog w=.ok (.agg #[v0,v1,v2]) w :=
 results_cell_row h tmps w g _ _ _ _ hp hg Tryz.underlying40 rfl ord_size
theorem oset2{W:World}{r:Nat}{v0 v1 v2 v:Value}{t:TypeId}(h:W.heap[r]?=some (.cells #[v0,v1,v2] t (0,0))):(W.setCell ⟨r,2,none⟩ v).heap[r]?=some (.cells #[v0,v1,v] t (0,0)):=by
 simp[World.setCell,zM,h]
theorem ord_final{base T r:Nat}{wx w9 w10 wa:World}{v v' k a a0 a1 a2:Value}{ts:List Lfc.Ord}{xs:List Value}{t:Lfc.Ord}(hr:r<base)(hT:T<r)(hb:base≤wx.heap.size)(hwa:wa.heap.size≤r)
  (hR:wx.heap[r]?=some (.cells #[k,a,v] 40 (0,0))) (hown:wx.ownsRow base 40 3 v ts.length xs) (hrow:ORow (fun b=>base≤b∧some b≠v.ownBlock) wx ts xs)
  (hTx:Oth T wa wx) (o9:Oth T wx.drew w9) (ht:OrdP (fun b=>wx.drew.heap.size≤b) w9 t a0 a1 a2)
  (hown':w10.ownsRow base 40 3 v' (ts.length+1) (xs++[a0,a1,a2]))
  (hg:(w9.alloc (.cells #[a0,a1,a2] 40)).grownBy w10 v.ownBlock) (hloc:v'.ownBlock=v.ownBlock∨v'.ownBlock=some (w9.heap.size+1)) :
  w10.heap[r]?=some (.cells #[k,a,v] 40 (0,0))∧(w10.setCell ⟨r,2,none⟩ v').heap[r]?=some (.cells #[k,a,v'] 40 (0,0))∧(w10.setCell ⟨r,2,none⟩ v').ownsRow base 40 3 v' (ts++[t]).length (xs++[a0,a1,a2]) ∧
  ORow (fun b=>base≤b∧some b≠v'.ownBlock) (w10.setCell ⟨r,2,none⟩ v') (ts++[t]) (xs++[a0,a1,a2])∧Oth T wa (w10.setCell ⟨r,2,none⟩ v')∧base≤(w10.setCell ⟨r,2,none⟩ v').heap.size ∧
  (∀b,b<base→b≠r→b≠T→(w10.setCell ⟨r,2,none⟩ v').heap[b]?=wx.heap[b]?)∧(w10.setCell ⟨r,2,none⟩ v').heap[T]?=w9.heap[T]?:=by
 have s9:wx.heap.size≤w9.heap.size:=o9.size;have s10:w9.heap.size+1≤w10.heap.size:=by have:=hg.size;simpa using this
 have hrx:=zL hR;have hown_lt:∀g,v.ownBlock=some g→base≤g∧g<wx.heap.size:=fun g e=>hown.lt g e;have hne:some r≠v.ownBlock:=fun e=>by have:=(hown_lt r e.symm).1;omega
 have hr9:w9.heap[r]?=some (.cells #[k,a,v] 40 (0,0)):=o9.heap hR (by omega);have hr10:w10.heap[r]?=some (.cells #[k,a,v] 40 (0,0)):=(hg.block r (by simp;omega) hne).trans ((zA _ _ _ (zL hr9)).trans hr9);have hne':v'.ownBlock≠some r:=fun e=>by have:=(hown'.lt r e).1;omega
 have hsz:(w10.setCell ⟨r,2,none⟩ v').heap.size=w10.heap.size:=by simp[World.setCell]
 have key:∀b,b≠r→some b≠v.ownBlock→b<w9.heap.size→(w10.setCell ⟨r,2,none⟩ v').heap[b]?=w9.heap[b]?:=fun b h1 h2 h3=>by
  rw[Below.heap_setCell _ _ _ _ (by show b≠r;omega),hg.block b (by simp;omega) h2,zA _ _ _ h3]
 have hq':∀b,base≤b→some b≠v.ownBlock→b<w9.heap.size→some b≠v'.ownBlock:=fun b _ h2 h3 e=>by
  rcases hloc with h | h
  ·exact h2 (e.trans h)
  have:=zO (e.trans h);omega
 refine⟨hr10,oset2 hr10,?_,?_,?_,by omega,?_,?_⟩
 ·rw[Zq];exact ownsRow_setCell_other hown' hne' _
 ·refine ORow.append (ORow.one ?_) ?_
  ·refine OrdP.keep (fun b hb1 hlt=>?_) (by omega) (fun b hlt hb1=>?_) _ _ _ _ ht
   ·have hb1:wx.heap.size≤b:=hb1;exact key b (by omega) (fun e=>by have:=(hown_lt b e.symm).2;omega) hlt
   have hb1:wx.heap.size≤b:=hb1;exact⟨by omega,hq' b (by omega) (fun e=>by have:=(hown_lt b e.symm).2;omega) hlt⟩
  refine ORow.keep (fun b hb1 hlt=>?_) (by omega) (fun b hlt hb1=>⟨hb1.1,hq' b hb1.1 hb1.2 (by omega)⟩) hrow;rw[key b (by have:=hb1.1;omega) hb1.2 (by omega)];exact o9.block b hlt (fun e=>by have:=zO e;have:=hb1.1;omega)
 ·refine Oth.of_new (hTx.trans ((Oth.refl _ _).drew.trans o9)) ⟨?_,?_,?_,by omega,fun b hb1=>?_⟩
  ·exact hg.os
  ·exact hg.tape
  ·exact hg.output
  rw[Below.heap_setCell _ _ _ _ (by show b≠r;omega),hg.block b (by simp;omega) (fun e=>by have:=(hown_lt b e.symm).1;omega),zA _ _ _ (by omega)]
 ·intro b h1 h2 h3;rw[key b h2 (fun e=>by have:=(hown_lt b e.symm).1;omega) (by omega)];exact o9.block b (by show b<wx.heap.size;omega) (fun e=>h3 (zO e))
 exact key T (by omega) (fun e=>by have:=(hown_lt T e.symm).1;omega) (by omega)
theorem ord_parts{base lo:Nat}{W:World}{A:Option Addr}{c:Nat}{ts:List Lfc.Ord}{xs:List Value}(hlo:lo≤base)(hown:W.ownsRow base 40 3 (.slice A ts.length c) ts.length xs)(hrow:ORow (fun b=>base≤b∧some b≠(Value.slice A ts.length c).ownBlock) W ts xs) :
  OrdsAtP (fun b=>lo≤b) W A ts∧ts.length≤c:=by
 rcases hown.2 with⟨h1,h2⟩ | ⟨g,cap,cur,hv,hbg,hg,hnc,_,_,_⟩
 ·exact⟨fun hne=>absurd (Zz h2) hne,by rw[h2];exact Nat.zero_le _⟩
 injection hv with e1 _ e3;subst e1 e3;refine⟨fun _=>⟨g,0,rfl,zL hg,by show lo≤g;omega,?_⟩,hnc⟩;exact(ORow.keep (fun _ _ _=>rfl) (zN _) (fun b _ hb=>by have:=hb.1;show lo≤b;omega) hrow).lie (own_cellsO hown)
end
section
open Go.RowKit Go.Maps
attribute [local go_sem ↓] Go.wp_at_zero Go.wp_at_succ
theorem oput3{W:World}{R:Nat}{a0 a1 a2:Value}{t:TypeId}(h:W.heap[R]?=some (.cells #[a0,a1,a2] t (0,0)))(v0 v1 v2:Value):∃s1 s2 s3,W.setCell ⟨R,0,none⟩ v0=s1∧s1.setCell ⟨R,1,none⟩ v1=s2∧s2.setCell ⟨R,2,none⟩ v2=s3 ∧
  (W.cell? ⟨R,0,none⟩=some a0∧s1.cell? ⟨R,1,none⟩=some a1∧s2.cell? ⟨R,2,none⟩=some a2) ∧
  (W.frozen? ⟨R,0,none⟩=false∧s1.frozen? ⟨R,1,none⟩=false∧s2.frozen? ⟨R,2,none⟩=false) ∧
  s3.heap[R]?=some (.cells #[v0,v1,v2] t (0,0))∧Oth R W s3:=by
 obtain⟨s1,h1⟩:∃s1,W.setCell ⟨R,0,none⟩ v0=s1:=⟨_,rfl⟩;obtain⟨s2,h2⟩:∃s2,s1.setCell ⟨R,1,none⟩ v1=s2:=⟨_,rfl⟩;obtain⟨s3,h3⟩:∃s3,s2.setCell ⟨R,2,none⟩ v2=s3:=⟨_,rfl⟩;have q1:s1.heap[R]?=some (.cells #[v0,a1,a2] t (0,0)):=zU h h1;have q2:s2.heap[R]?=some (.cells #[v0,v1,a2] t (0,0)):=zU q1 h2;have q3:s3.heap[R]?=some (.cells #[v0,v1,v2] t (0,0)):=zU q2 h3;refine⟨s1,s2,s3,h1,h2,h3,⟨zC h 0,zC q1 1,zC q2 2⟩,⟨zF h 0,zF q1 1,zF q2 2⟩,q3,?_⟩;rw[←h3,←h2,←h1];exact((Oth.set W v0).trans (Oth.set _ v1)).trans (Oth.set _ v2)
theorem ord_node(o:Lfc.Ord):∃k a ts,o=.node k a ts:=by
 cases o with
 |node k a ts=>exact⟨k,a,ts,rfl⟩
theorem oalloc_loc{w:World}{o:Obj}{v v':Value}(h:v'.ownBlock=v.ownBlock∨v'.ownBlock=some (w.alloc o).heap.size):v'.ownBlock=v.ownBlock∨v'.ownBlock=some (w.heap.size+1):=by simpa using h
theorem oalloc_le{w:World}{o:Obj}{b:Nat}(h:b≤w.heap.size):b≤(w.alloc o).heap.size:=by simp;omega
theorem ocells_new(W:World)(n:Nat)(hn:n=W.heap.size)(xs:List Value)(e:TypeId)(j:Nat)(u:Value)(h:xs[j]?=some u):(W.alloc (.cells xs.toArray e)).cell? ((⟨n,0,none⟩:Addr).add j)=some u:=by
 subst hn;rw[ocell_add,zC (zW W _)];simpa using h
theorem oform{w:World}{base:Nat}{e:TypeId}{size n:Nat}{v:Value}{xs:List Value}(h:w.ownsRow base e size v n xs):∃A c,v=.slice A n c:=by
 rcases h.2 with⟨rfl,rfl⟩ | ⟨g,cap,cur,rfl,_⟩
 ·exact⟨_,_,rfl⟩
 exact⟨_,_,rfl⟩
theorem oneCell3{k a:Int}{A:Option Addr}{l c:Nat}:∀u∈[Value.int .i64 k,.int .i64 a,.slice A l c],u.oneCell'=true:=by
 intro u hu;simp at hu;rcases hu with rfl | rfl | rfl <;> rfl
end
section
open Go.RowKit
structure TapeL(T:Nat)(w:World):Prop where
 t:∃(A:Option Addr)(n c i:Nat),w.heap[T]?=some (.cells #[.slice A n c,.int .i64 (i:Int)] 50 (0,0))∧i≤n∧n≤maxLen∧(0<n→∃b o,A=some ⟨b,o,none⟩∧b<T∧∀k,k<n→∃x,w.cell? ⟨b,o+k,none⟩=some (.int .i64 x))
theorem TapeL.lt{T:Nat}{w:World}(h:TapeL T w):T<w.heap.size:=by
 obtain⟨A,n,c,i,ht,_⟩:=h.t;exact zL ht
theorem TapeL.below{T:Nat}{w w':World}(h:TapeL T w)(hb:Below w.heap.size w w'):TapeL T w':=by
 have hlt:=h.lt;obtain⟨A,n,c,i,ht,hi,hn,hc⟩:=h.t;refine⟨⟨A,n,c,i,(hb.block T hlt).trans ht,hi,hn,fun hp=>?_⟩⟩;obtain⟨b,o,hA,hbT,hx⟩:=hc hp;refine⟨b,o,hA,hbT,fun k hk=>?_⟩;obtain⟨x,hx⟩:=hx k hk;exact⟨x,(hb.cell (p:=⟨b,o+k,none⟩) (by simp only;omega)).trans hx⟩
theorem TapeL.moved{T:Nat}{w w':World}(h:TapeL T w)(ho:Oth T w w'){A:Option Addr}{n c i i':Nat}(ht:w.heap[T]?=some (.cells #[.slice A n c,.int .i64 (i:Int)] 50 (0,0)))(ht':w'.heap[T]?=some (.cells #[.slice A n c,.int .i64 (i':Int)] 50 (0,0)))(hi:i'≤n):TapeL T w':=by
 have hlt:=h.lt;obtain⟨A0,n0,c0,i0,ht0,_,hn,hc⟩:=h.t;rw[ht] at ht0;cases ht0;refine⟨⟨A,n,c,i',ht',hi,hn,fun hp=>?_⟩⟩;obtain⟨b,o,hA,hbT,hx⟩:=hc hp;refine⟨b,o,hA,hbT,fun k hk=>?_⟩;obtain⟨x,hx⟩:=hx k hk;exact⟨x,(ho.cell (p:=⟨b,o+k,none⟩) (by simp only;omega) (by simp only;omega)).trans hx⟩
theorem TapeL.oth{T R:Nat}{w w':World}(h:TapeL T w)(hR:T<R)(ho:Oth R w w'):TapeL T w':=by
 have hlt:=h.lt;obtain⟨A,n,c,i,ht,hi,hn,hc⟩:=h.t;refine⟨⟨A,n,c,i,ho.heap ht (by omega),hi,hn,fun hp=>?_⟩⟩;obtain⟨b,o,hA,hbT,hx⟩:=hc hp;refine⟨b,o,hA,hbT,fun k hk=>?_⟩;obtain⟨x,hx⟩:=hx k hk;exact⟨x,(ho.cell (p:=⟨b,o+k,none⟩) (by simp only;omega) (by simp only;omega)).trans hx⟩
theorem tapeL_next(T n:Nat)(w:World)(h0:0<n)(h1:n<=100)(h:TapeL T w) :
  Calls Tryz.prog 32 #[.pointer (some ⟨T,0,none⟩),zI (n:Int)] w fun e w'=>(∃r:Nat,r<n/\e=.returned (zI (r:Int)))/\TapeL T w'/\Oth T w w':=by
 obtain⟨A,l,c,i,ht,hi,hl,hc⟩:=h.t;have hT:=h.lt;have H:=zH h;have HT:=zH ht;have ht0:=zC ht 0;have ht1:=zC ht 1;simp at ht0 ht1;have hf1:=zF ht 1;have hl':l<=9223372036854775807:=by unfold maxLen at hl;omega
 clear h ht hl;by_cases hil:i<l
 ·obtain⟨b,o,rfl,hbT,hx⟩:=hc (by omega);obtain⟨x,hx⟩:=hx i hil;clear hc;have hd:decide ((i:Int)≥(l:Int))=false:=by simp;omega
  obtain⟨w1,hw1⟩:∃w1,w.setCell ⟨T,1,none⟩ (zI ((i:Int)+1))=w1:=⟨_,rfl⟩;have o1:Oth T w w1:=zV hw1;have q1:w1.heap[T]?=some (.cells #[.slice (some ⟨b,o,none⟩) l c,zI ((i:Int)+1)] 50 (0,0)):=by
   rw[<-hw1];simp[World.setCell,zM,HT.o]
  have y0:=zC q1 0;have y1:=zC q1 1;simp at y0 y1;have hx1:=(o1.cell (p:=⟨b,o+i,none⟩) (by simp only;omega) (by simp only;omega)).trans hx;go_enter Tryz.func32,Tryz.ntmps32;go_upto_region 1 with fail;refine Zs 9 ?_;simp only[Zc,List.take_zero,List.drop_succ_cons,List.drop_zero];change wpStill Tryz.prog _ w.drew _ _ _;repeat still_step
  try refine wpStill_nil ?_
  change wpList _ _ _ _ _ w.drew;go_upto_region 4 with fail;have hq:=cutI_lt x n h0;clear hw1;have hi2:IntKind.i64.wrap (i:Int)=(i:Int):=Zi _ ⟨by omega,by omega⟩;refine Zs 13 ?_;simp only[Zc,List.take_zero,List.drop_succ_cons,List.drop_zero];change wpStill Tryz.prog _ w1.drew.drew _ _ _;repeat still_step
  still_call (cut_any x n _ h0 (by omega))
  repeat still_step
  try refine wpStill_nil ?_
  change wpList _ _ _ _ _ w1.drew.drew;go_wp2_with fail;go_ret;exact⟨⟨_,hq,rfl⟩,(H.o.moved o1 HT.o (i':=i+1) (by simpa using q1) (by omega)).below (zB _ _).drew.drew,o1.drew.drew⟩
 have hd:decide ((i:Int)≥(l:Int))=true:=by simp;omega
 go_enter Tryz.func32,Tryz.ntmps32;go_upto_region 1 with fail;refine Zs 9 ?_;simp only[Zc,List.take_zero,List.drop_succ_cons,List.drop_zero];change wpStill Tryz.prog _ w.drew _ _ _;repeat still_step
 try refine wpStill_nil ?_
 change wpList _ _ _ _ _ w.drew;go_wp2_with fail;go_ret;exact⟨⟨0,h0,rfl⟩,H.o.below (zB _ _).drew,(Oth.refl _ _).drew⟩
end
end Go.Proofs.YthajalgkjonaaaaGreatDoor
