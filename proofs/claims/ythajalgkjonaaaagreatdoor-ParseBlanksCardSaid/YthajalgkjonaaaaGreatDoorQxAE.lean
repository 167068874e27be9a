/- Parts of the proof that no input makes the law false: PaSpl,RawMem,RawText,RawTextP,PaLex,PaTx,PaLib,PaBlP,RawSize,RawSame. -/
import Derived.Deep.RegionHeld3
import Derived.Test.YthajalgkjonaaaaGreatDoorQxAA
import Derived.Test.YthajalgkjonaaaaGreatDoorQxAB
import Derived.Test.YthajalgkjonaaaaGreatDoorQxAC
import Derived.Test.YthajalgkjonaaaaGreatDoorQxAD
set_option linter.unusedVariables false
set_option linter.unusedSimpArgs false
namespace Lfc
def Tok.up(D:Nat)(t:Tok):Tok:=⟨t.kind,t.text,t.pos+D⟩
theorem rel_front(T U:List Tok)(n m:Nat)(l:List Op):Rel ⟨T,n,l⟩ ⟨T++U,m,l⟩ 0 (fun k=>k<T.length) (fun _ _=>True) False where
 ops:=rfl
 le:=by simp
 down:=fun k k' h h'=>Nat.lt_of_le_of_lt h h'
 kind:=fun k h=>by simp[PE.pk,List.getD_eq_getElem?_getD,List.getElem?_append_left h,List.getElem?_eq_getElem h]
 text:=fun k h=>by simp[PE.pk,List.getD_eq_getElem?_getD,List.getElem?_append_left h,List.getElem?_eq_getElem h]
 pos:=fun _ _=>trivial
 all:=fun h=>h.elim
 len:=fun h=>h.elim
 fin:=fun h=>h.elim
theorem pk_back(T B:List Tok)(n D:Nat)(l:List Op)(k:Nat):PE.pk ⟨T++B.map (Tok.up D),n+D,l⟩ (k+T.length)=⟨(PE.pk ⟨B,n,l⟩ k).kind,(PE.pk ⟨B,n,l⟩ k).text,(PE.pk ⟨B,n,l⟩ k).pos+D⟩:=by
 unfold PE.pk
 simp only[List.getD_eq_getElem?_getD]
 rw[List.getElem?_append_right (by omega),Nat.add_sub_cancel,List.getElem?_map]
 cases B[k]? <;> rfl
theorem rel_back(T B:List Tok)(n D:Nat)(l:List Op):Rel ⟨B,n,l⟩ ⟨T++B.map (Tok.up D),n+D,l⟩ T.length (fun _=>True) (fun a b=>b=a+D) True where
 ops:=rfl
 le:=by simp
 down:=fun _ _ _ _=>trivial
 kind:=fun k _=>by rw[pk_back]
 text:=fun k _=>by rw[pk_back]
 pos:=fun k _=>by rw[pk_back]
 all:=fun _ _=>trivial
 len:=fun _ k=>by simp;omega
 fin:=fun _=>rfl
def dotB(t:Tok):Bool:=decide (t.kind=2) && decide (t.text=[46])
def DotR{α:Type}(p:PE)(r:PR α):Prop:=∀x k',r=.ok x k'→1≤k'∧p.is (k'-1) 2 [46]=true
theorem DotR.then{α β:Type}{p:PE}{r:PR α}{f:α→Nat→PR β}(h:∀x k,DotR p (f x k)):DotR p (r.then f):=fun y k' e=>by
 obtain⟨x,k1,_,e2⟩:=PR.then_ok e
 exact h x k1 y k' e2
theorem DotR.ite{α:Type}{p:PE}{c:Prop}[Decidable c]{r s:PR α}(h1:DotR p r)(h2:DotR p s):DotR p (if c then r else s):=by split <;> assumption
theorem DotR.err{α:Type}{p:PE}(c:Int)(a:Nat):DotR p (.err c a:PR α):=fun _ _ e=>nomatch e
theorem dot_punct{α:Type}(p:PE)(k:Nat)(x:α):DotR p ((p.punct k [46]).then fun _ k1=>.ok x k1):=fun y k' e=>by
 obtain⟨_,k1,e1,e2⟩:=PR.then_ok e
 cases e2
 obtain⟨_,rfl,h⟩:=PE.punct_ok e1
 exact⟨by omega,by simpa using h⟩
theorem dot_signs(p:PE):∀(f k:Nat)(a:List Int),DotR p (signsF p f k a)
 |0,_,_=>fun _ _ e=>nomatch e
 | f + 1, k, a => by
  rw[signsF]
  split
  ·rename_i h
   intro x k' e
   cases e
   exact⟨by omega,by simpa using h⟩
  ·exact DotR.then fun i k1=>dot_signs p f k1 _
theorem dot_op(p:PE)(it:Itm)(fix:Int)(k:Nat):DotR p (p.opP it fix k):=by
 unfold PE.opP
 refine DotR.then fun c k1=>DotR.then fun n k2=>fun y k' e=>?_
 obtain⟨_,k3,e1,e2⟩:=PR.then_ok e
 obtain⟨_,rfl,h⟩:=PE.punct_ok e1
 split at e2
 ·cases e2
 ·cases e2
  exact⟨by omega,by simpa using h⟩
theorem dot_dir(p:PE)(i:Int)(it:Itm)(k:Nat):DotR p (p.dirP i it k):=by
 unfold PE.dirP
 split
 ·exact DotR.then fun i k1=>dot_op p it _ k1
 ·exact dot_op p it 1 k
 ·exact dot_op p it 2 k
 ·exact DotR.then fun _ _=>DotR.then fun _ _=>DotR.then fun _ _=>DotR.then fun _ _=>DotR.then fun _ _=>dot_punct p _ _
 ·exact DotR.then fun _ _=>DotR.then fun _ _=>DotR.then fun _ _=>DotR.then fun _ _=>DotR.then fun _ _=>dot_punct p _ _
 ·intro x k' e
  obtain⟨n,k1,_,e2⟩:=PR.then_ok e
  obtain⟨l,k2,e3,e4⟩:=PR.then_ok e2
  cases e4
  exact dot_signs p _ _ _ _ _ e3
 ·exact DotR.then fun _ _=>dot_punct p _ _
 ·exact DotR.then fun _ _=>dot_punct p _ _
 ·exact DotR.then fun _ _=>dot_punct p _ _
 ·exact DotR.then fun _ _=>dot_punct p _ _
 ·exact DotR.then fun _ _=>dot_punct p _ _
 ·exact DotR.then fun _ _=>DotR.then fun _ _=>DotR.then fun _ _=>DotR.then fun _ _=>dot_punct p _ _
 ·exact DotR.then fun _ _=>DotR.then fun _ _=>dot_punct p _ _
theorem dot_item(p:PE)(n k:Nat):DotR p (p.itemP n k):=by
 unfold PE.itemP
 refine DotR.ite (DotR.err _ _) (DotR.ite (DotR.ite (DotR.err _ _) (dot_dir p _ _ _)) (DotR.ite ?_ fun _ _ e=>(PE.unexp_ok e).elim))
 unfold PE.declP
 refine DotR.then fun _ _=>DotR.ite (DotR.then fun _ _=>DotR.ite (DotR.then fun _ _=>DotR.then fun _ _=>dot_punct p _ _) (dot_punct p _ _)) (DotR.then fun _ _=>DotR.then fun _ _=>dot_punct p _ _)
theorem item_count{toks:List Tok}{fin:Nat}{l:List Op}{n k k1:Nat}{x:Itm × List Op}(h:PE.itemP ⟨toks,fin,l⟩ n k=.ok x k1)(hk:k≤toks.length):k<k1∧k1≤toks.length∧(toks.drop k1).countP dotB+1≤(toks.drop k).countP dotB:=by
 have hf:=(fair_item ⟨toks,fin,l⟩ n k).2.2 x k1 h
 have hd:=(dot_item _ n k x k1 h).2
 have h1:k+1≤k1:=hf.1
 have h2:k1≤toks.length:=hf.2
 refine⟨by omega,h2,?_⟩
 have hlt:k1-1<toks.length:=by omega
 have e1:toks.drop (k1-1)=toks[k1-1] :: toks.drop k1:=by
  rw[List.drop_eq_getElem_cons hlt,show k1-1+1=k1 by omega]
 have hb:dotB toks[k1-1]=true:=by
  have:PE.pk ⟨toks,fin,l⟩ (k1-1)=toks[k1-1]:=by simp[PE.pk,List.getD_eq_getElem?_getD,List.getElem?_eq_getElem hlt]
  unfold PE.is at hd
  rw[this] at hd
  exact hd
 have h3:(toks.drop (k1-1)).countP dotB≤(toks.drop k).countP dotB:=(List.drop_sublist_drop_left toks (by omega)).countP_le
 rw[e1,List.countP_cons_of_pos hb] at h3
 exact h3
theorem items_front(T U:List Tok)(n m:Nat):∀(f k:Nat)(l:List Op)(acc acc':List Itm)(x:List Itm × List Op)(k' g:Nat),itemsF T n f k l acc=.ok x k'→k≤T.length→acc.map Itm.strip=acc'.map Itm.strip→T.length+U.length<g+k →
  ∃g' acc2,U.length<g'∧x.1.map Itm.strip=acc2.map Itm.strip∧itemsF (T++U) m g k l acc'=itemsF (T++U) m g' T.length x.2 acc2
 |0,_,_,_,_,_,_,_,h,_,_,_=>nomatch h
 | f + 1, k, l, acc, acc', x, k', g, h, hk, ha, hg => by
  rw[itemsF] at h
  have hlen:acc.length=acc'.length:=by have:=congrArg List.length ha;simpa using this
  by_cases hlt:k<T.length
  ·rw[if_pos hlt] at h
   obtain⟨y,k1,e1,e2⟩:=PR.then_ok h
   obtain⟨c1,c2,_⟩:=item_count e1 hk
   have hne:=item_lt e1
   obtain⟨_,hS⟩:=(sim_item (rel_front T U n m l) acc.length acc'.length k hne (by rw[←hlen];exact hne)).1 y k1 e1
   obtain⟨z,e3,hz1,hz2⟩:=hS (show k1-1<T.length by omega)
   obtain⟨g0,rfl⟩:∃g0,g=g0+1:=⟨g-1,by omega⟩
   obtain⟨g',acc2,h1,h2,h3⟩:=items_front T U n m f k1 y.2 (acc++[y.1]) (acc'++[z.1]) x k' g0 e2 c2 (by rw[List.map_append,List.map_append,ha,List.map_cons,List.map_cons,hz1]) (by omega)
   refine⟨g',acc2,h1,h2,?_⟩
   rw[←h3,itemsF,if_pos (by simp;omega)]
   have e3':PE.itemP ⟨T++U,m,l⟩ acc'.length k=.ok z k1:=e3
   rw[e3']
   show itemsF (T++U) m g0 k1 z.2 (acc'++[z.1])=_
   rw[hz2]
  ·rw[if_neg hlt] at h
   cases h
   obtain rfl:k=T.length:=by omega
   exact⟨g,acc',by omega,ha,rfl⟩
theorem items_back(T B:List Tok)(n D:Nat):∀(f g k:Nat)(l:List Op)(acc acc':List Itm),f≤g→k≤B.length→acc.length≤acc'.length→acc'.length+(B.drop k).countP dotB<512 →
  (∀x k',itemsF B n f k l acc=.ok x k'→∃b c,x.1=acc++b∧b.map Itm.strip=c.map Itm.strip∧itemsF (T++B.map (Tok.up D)) (n+D) g (k+T.length) l acc'=.ok (acc'++c,x.2) (k'+T.length)) ∧
  (∀c a,itemsF B n f k l acc=.err c a→itemsF (T++B.map (Tok.up D)) (n+D) g (k+T.length) l acc'=.err c (a+D))
 |0,_,_,_,_,_,_,_,_,_=>⟨fun _ _ h=>(nomatch h),fun _ _ h=>(nomatch h)⟩
 |f+1,0,_,_,_,_,h,_,_,_=>absurd h (by omega)
 | f + 1, g + 1, k, l, acc, acc', hf, hk, ha, hc => by
  rw[itemsF,itemsF]
  by_cases hlt:k<B.length
  ·rw[if_pos hlt,if_pos (by simp;omega)]
   have S:=sim_item (rel_back T B n D l) acc.length acc'.length k (by omega) (by omega)
   cases hr:PE.itemP ⟨B,n,l⟩ acc.length k with
   |out=>exact⟨fun _ _ h=>(nomatch h),fun _ _ h=>(nomatch h)⟩
   |err c a =>
    refine⟨fun _ _ h=>(nomatch h),fun c1 a1 h=>?_⟩
    cases h
    obtain⟨a',e1,rfl⟩:=S.2 trivial c a hr
    rw[e1]
    rfl
   | ok y k1 =>
    obtain⟨c1,c2,c3⟩:=item_count hr hk
    obtain⟨z,e3,hz1,hz2⟩:=(S.1 y k1 hr).2 trivial
    rw[e3]
    obtain⟨i1,i2⟩:=items_back T B n D f g k1 y.2 (acc++[y.1]) (acc'++[z.1]) (by omega) c2 (by simp;omega) (by simp;omega)
    refine⟨fun x k' h=>?_,fun c a h=>?_⟩
    ·obtain⟨b,c,hb,hbc,e4⟩:=i1 x k' h
     refine⟨y.1 :: b,z.1 :: c,by rw[hb];simp,by rw[List.map_cons,List.map_cons,hz1,hbc],?_⟩
     show itemsF _ _ g (k1+T.length) z.2 (acc'++[z.1])=_
     rw[←hz2,e4]
     simp
    ·have e4:=i2 c a h
     show itemsF _ _ g (k1+T.length) z.2 (acc'++[z.1])=_
     rw[←hz2,e4]
  ·rw[if_neg hlt,if_neg (by simp;omega)]
   refine⟨fun x k' h=>?_,fun _ _ h=>(nomatch h)⟩
   cases h
   exact⟨[],[],by simp,rfl,by simp⟩
theorem items_dots(T:List Tok)(n:Nat):∀(f k:Nat)(l:List Op)(acc:List Itm)(x:List Itm × List Op)(k':Nat),itemsF T n f k l acc=.ok x k'→k≤T.length→x.1.length≤acc.length+(T.drop k).countP dotB
 |0,_,_,_,_,_,h,_=>nomatch h
 | f + 1, k, l, acc, x, k', h, hk => by
  rw[itemsF] at h
  split at h
  ·obtain⟨y,k1,e1,e2⟩:=PR.then_ok h
   obtain⟨c1,c2,c3⟩:=item_count e1 hk
   have:=items_dots T n f k1 _ _ x k' e2 c2
   simp at this
   omega
  ·cases h
   simp
theorem items_split(T B:List Tok)(n D:Nat)(hc:T.countP dotB+B.countP dotB<512){a:List Itm}{ops:List Op}{k0:Nat}(h:itemsP T D []=.ok (a,ops) k0) :
  (∀c e,itemsP B n ops=.err c e→itemsP (T++B.map (Tok.up D)) (n+D) []=.err c (e+D)) ∧
  (∀b more k,itemsP B n ops=.ok (b,more) k→∃c k2,itemsP (T++B.map (Tok.up D)) (n+D) []=.ok (c,more) k2∧(a++b).map Itm.strip=c.map Itm.strip):=by
 unfold itemsP at h ⊢
 have hd:=items_dots T D _ _ _ _ _ _ h (Nat.zero_le _)
 rw[List.drop_zero] at hd
 obtain⟨g,a',hg,ha,hq⟩:=items_front T (B.map (Tok.up D)) D (n+D) _ 0 [] [] [] _ _ ((T++B.map (Tok.up D)).length+1) h (Nat.zero_le _) rfl (by simp)
 have hl:a.length=a'.length:=by have:=congrArg List.length ha;simpa using this
 rw[List.length_map] at hg
 have hd:a.length≤T.countP dotB:=by simpa using hd
 obtain⟨i1,i2⟩:=items_back T B n D (B.length+1) g 0 ops [] a' (by omega) (Nat.zero_le _) (by simp) (by rw[List.drop_zero];omega)
 rw[Nat.zero_add] at i1 i2
 have hq':itemsF (T++B.map (Tok.up D)) (n+D) ((T++B.map (Tok.up D)).length+1) 0 [] []=itemsF (T++B.map (Tok.up D)) (n+D) g T.length ops a':=hq
 rw[hq']
 refine⟨fun c e he=>i2 c e he,fun b more k he=>?_⟩
 obtain⟨b',c,hb,hbc,e4⟩:=i1 _ _ he
 have hb:b=b':=by simpa using hb
 subst hb
 exact⟨a'++c,_,e4,by rw[List.map_append,List.map_append,hbc,show List.map Itm.strip a=List.map Itm.strip a' from ha]⟩
end Lfc
namespace Go.Proofs.YthajalgkjonaaaaGreatDoor
open Go.RowKit
mutual
def TreeC(w:World):Lfc.Raw→Value→Value→Value→Value→Prop
 |.node k n p ts,v0,v1,v2,v3=>v0=.int .i64 k∧v1=S n∧n.length≤1000000∧v2=.int .i64 p∧∃A c,v3=.slice A ts.length c∧ts.length≤c∧(ts≠[]→∃b o,A=some ⟨b,o,none⟩∧b<w.heap.size∧TreesO w b ts o)
def TreesO(w:World)(b:Nat):List Lfc.Raw→Nat→Prop
 |[],_=>True
 |t :: r,o=>(∃v0 v1 v2 v3,w.cell? ⟨b,o,none⟩=some v0∧w.cell? ⟨b,o+1,none⟩=some v1∧w.cell? ⟨b,o+2,none⟩=some v2∧w.cell? ⟨b,o+3,none⟩=some v3∧TreeC w t v0 v1 v2 v3)∧TreesO w b r (o+4)
end
mutual
theorem TreeC.below{w w':World}(hb:Below w.heap.size w w'):∀(t:Lfc.Raw)(v0 v1 v2 v3:Value),TreeC w t v0 v1 v2 v3→TreeC w' t v0 v1 v2 v3
 |.node k n p ts,v0,v1,v2,v3,h=>by
  rw[TreeC] at h ⊢
  obtain⟨h0,h1,hn,h2,A,c,h3,h4,h5⟩:=h
  refine⟨h0,h1,hn,h2,A,c,h3,h4,fun hne=>?_⟩
  obtain⟨b,o,hA,hlt,hts⟩:=h5 hne
  exact⟨b,o,hA,Nat.lt_of_lt_of_le hlt hb.size,TreesO.below hb ts b o hlt hts⟩
theorem TreesO.below{w w':World}(hb:Below w.heap.size w w'):∀(ts:List Lfc.Raw)(b o:Nat),b<w.heap.size→TreesO w b ts o→TreesO w' b ts o
 |[],_,_,_,_=>by rw[TreesO];trivial
 |t :: r,b,o,hlt,h=>by
  rw[TreesO] at h ⊢
  obtain⟨⟨v0,v1,v2,v3,c0,c1,c2,c3,ht⟩,hr⟩:=h
  exact⟨⟨v0,v1,v2,v3,(hb.cell (p:=⟨b,_,none⟩) hlt).trans c0,(hb.cell (p:=⟨b,_,none⟩) hlt).trans c1,(hb.cell (p:=⟨b,_,none⟩) hlt).trans c2,(hb.cell (p:=⟨b,_,none⟩) hlt).trans c3,TreeC.below hb t v0 v1 v2 v3 ht⟩,TreesO.below hb r b (o+4) hlt hr⟩
end
theorem TreesO.at_{w:World}{b:Nat}:∀(ts:List Lfc.Raw)(o i:Nat)(t:Lfc.Raw),TreesO w b ts o→ts[i]?=some t →
  ∃v0 v1 v2 v3,w.cell? ⟨b,o+i*4,none⟩=some v0∧w.cell? ⟨b,o+i*4+1,none⟩=some v1∧w.cell? ⟨b,o+i*4+2,none⟩=some v2∧w.cell? ⟨b,o+i*4+3,none⟩=some v3∧TreeC w t v0 v1 v2 v3:=by
 intro ts
 induction ts with
 |nil=>intro o i t _ h;simp at h
 | cons a r ih =>
  intro o i t h hi
  rw[TreesO] at h
  cases i with
  |zero=>simp at hi;subst hi;simpa using h.1
  |succ i =>
   have:=ih (o+4) i t h.2 (by simpa using hi)
   rw[show o+(i+1)*4=o+4+i*4 by omega]
   exact this
def TreeV(w:World)(t:Lfc.Raw)(v:Value):Prop:=∃v0 v1 v2 v3,v=.agg #[v0,v1,v2,v3]∧TreeC w t v0 v1 v2 v3
theorem TreeV.below{w w':World}{t:Lfc.Raw}{v:Value}(h:TreeV w t v)(hb:Below w.heap.size w w'):TreeV w' t v:=by
 obtain⟨v0,v1,v2,v3,rfl,h⟩:=h
 exact⟨v0,v1,v2,v3,rfl,TreeC.below hb t _ _ _ _ h⟩
def TreesAt(w:World)(A:Option Addr)(ts:List Lfc.Raw):Prop:=ts≠[]→∃b o,A=some ⟨b,o,none⟩∧b<w.heap.size∧TreesO w b ts o
theorem TreesAt.below{w w':World}{A:Option Addr}{ts:List Lfc.Raw}(h:TreesAt w A ts)(hb:Below w.heap.size w w'):TreesAt w' A ts:=fun hne=>by
 obtain⟨b,o,hA,hlt,h⟩:=h hne
 exact⟨b,o,hA,Nat.lt_of_lt_of_le hlt hb.size,TreesO.below hb ts b o hlt h⟩
theorem TreeV.open_{w:World}{k p:Int}{n:List UInt8}{ts:List Lfc.Raw}{v:Value}(h:TreeV w (.node k n p ts) v):∃A c,v=.agg #[.int .i64 k,S n,.int .i64 p,.slice A ts.length c]∧ts.length≤c∧TreesAt w A ts:=by
 obtain⟨v0,v1,v2,v3,rfl,h⟩:=h
 rw[TreeC] at h
 obtain⟨rfl,rfl,_,rfl,A,c,rfl,hc,h⟩:=h
 exact⟨A,c,rfl,hc,h⟩
theorem TreeV.name_le{w:World}{k p:Int}{n:List UInt8}{ts:List Lfc.Raw}{v:Value}(h:TreeV w (.node k n p ts) v):n.length≤1000000:=by
 obtain⟨v0,v1,v2,v3,rfl,h⟩:=h
 rw[TreeC] at h
 exact h.2.2.1
theorem TreeV.mk{w:World}{k p:Int}{n:List UInt8}{ts:List Lfc.Raw}{A:Option Addr}{c:Nat}(hn:n.length≤1000000)(hc:ts.length≤c)(h:TreesAt w A ts):TreeV w (.node k n p ts) (.agg #[.int .i64 k,S n,.int .i64 p,.slice A ts.length c]) :=
 ⟨_,_,_,_,rfl,by rw[TreeC];exact⟨rfl,rfl,hn,rfl,A,c,rfl,hc,h⟩⟩
theorem TreesAt.at_{w:World}{A:Option Addr}{ts:List Lfc.Raw}(h:TreesAt w A ts){i:Nat}(hi:i<ts.length) :
  ∃b o k n p us B c,A=some ⟨b,o,none⟩∧b<w.heap.size∧ts[i]=.node k n p us∧w.cell? ⟨b,o+i*4,none⟩=some (.int .i64 k)∧w.cell? ⟨b,o+i*4+1,none⟩=some (S n)∧w.cell? ⟨b,o+i*4+2,none⟩=some (.int .i64 p)∧w.cell? ⟨b,o+i*4+3,none⟩=some (.slice B us.length c) ∧
   us.length≤c∧TreesAt w B us∧TreeV w ts[i] (.agg #[.int .i64 k,S n,.int .i64 p,.slice B us.length c]):=by
 obtain⟨b,o,hA,hlt,hts⟩:=h (by intro h0;rw[h0] at hi;simp at hi)
 obtain⟨v0,v1,v2,v3,c0,c1,c2,c3,ht⟩:=TreesO.at_ ts o i ts[i] hts (List.getElem?_eq_getElem hi)
 cases ht':ts[i] with
 |node k n p us =>
  rw[ht'] at ht
  have htv:TreeV w (.node k n p us) (.agg #[v0,v1,v2,v3]):=⟨v0,v1,v2,v3,rfl,ht⟩
  rw[TreeC] at ht
  obtain⟨rfl,rfl,_,rfl,B,c,rfl,hc,hB⟩:=ht
  exact⟨b,o,k,n,p,us,B,c,hA,hlt,rfl,c0,c1,c2,c3,hc,hB,htv⟩
end Go.Proofs.YthajalgkjonaaaaGreatDoor
namespace Lfc
def twoText(o m e:List UInt8):List (List UInt8)→List UInt8
 |[a]=>o++a++e
 |[a,b]=>o++a++m++b++e
 |_=>[]
def bindText(n o e:List UInt8):List (List UInt8)→List UInt8
 |[a]=>[40]++o++n++(e++[32])++a++[41]
 |[a,b]=>[40]++o++n++[58]++a++(e++[32])++b++[41]
 |_=>[]
def putText(q:List (List UInt8))(k:Int)(n:List UInt8)(xs:List (List UInt8)):List UInt8 :=
 if k=1 then(if n∈q then [40]++n++[41] else n)
 else if k=2 then [64]++n
 else if k=3 then [95]
 else if k=4 then [116,121,112,101]
 else if k=5 then twoText [40] [32] [41] xs
 else if k=6 then twoText [40] [32,45,62,32] [41] xs
 else if k=7 then bindText n [123] [125] xs
 else if k=8 then bindText n [91] [93] xs
 else if k=9 then twoText [40] [32,58,32] [41] xs
 else []
mutual
def Raw.text(q:List (List UInt8)):Raw→List UInt8
 |.node k n _ ts=>putText q k n (Raw.texts q ts)
def Raw.texts(q:List (List UInt8)):List Raw→List (List UInt8)
 |[]=>[]
 |a :: r=>Raw.text q a :: Raw.texts q r
end
mutual
def Raw.short(s:Nat):Raw→Prop
 |.node _ n _ ts=>n.length≤s∧Raw.shorts s ts
def Raw.shorts(s:Nat):List Raw→Prop
 |[]=>True
 |a :: r=>Raw.short s a∧Raw.shorts s r
end
theorem putText_len(q:List (List UInt8))(k:Int)(n:List UInt8)(xs:List (List UInt8))(z:Nat)(hx:xs.flatten.length≤z):(putText q k n xs).length≤n.length+20+z:=by
 have h2:∀(o m e:List UInt8),o.length+m.length+e.length≤20→(twoText o m e xs).length≤20+z:=by
  intro o m e h
  unfold twoText
  split
  ·simp at hx ⊢;omega
  ·simp at hx ⊢;omega
  ·simp
 have h3:∀(o e:List UInt8),o.length+e.length≤15→(bindText n o e xs).length≤n.length+20+z:=by
  intro o e h
  unfold bindText
  split
  ·simp at hx ⊢;omega
  ·simp at hx ⊢;omega
  ·simp
 unfold putText
 split
 ·split <;> simp <;> omega
 split
 ·simp;omega
 split
 ·simp;omega
 split
 ·simp;omega
 split
 ·have:=h2 [40] [32] [41] (by simp);omega
 split
 ·have:=h2 [40] [32,45,62,32] [41] (by simp);omega
 split
 ·exact h3 [123] [125] (by simp)
 split
 ·exact h3 [91] [93] (by simp)
 split
 ·have:=h2 [40] [32,58,32] [41] (by simp);omega
 ·simp
mutual
theorem text_len(q:List (List UInt8))(s:Nat):∀(t:Raw),t.short s→(t.text q).length≤t.size*(s+20)
 |.node k n p ts,h=>by
  rw[Raw.short] at h
  have h1:=texts_flat q s ts h.2
  have h2:=putText_len q k n _ _ h1
  simp only[Raw.text,Raw.size,Nat.add_mul,Nat.one_mul] at h2 ⊢
  omega
theorem texts_flat(q:List (List UInt8))(s:Nat):∀(ts:List Raw),Raw.shorts s ts→(Raw.texts q ts).flatten.length≤Raw.sizes ts*(s+20)
 |[],_=>by simp[Raw.texts,Raw.sizes]
 |a :: r,h=>by
  rw[Raw.shorts] at h
  have h1:=text_len q s a h.1
  have h2:=texts_flat q s r h.2
  simp only[Raw.texts,Raw.sizes,List.flatten_cons,List.length_append,Nat.add_mul] at h2 ⊢
  omega
end
end Lfc
namespace Go.Proofs.YthajalgkjonaaaaGreatDoor
open Go.RowKit
mutual
theorem TreeC.short{w:World}:∀(t:Lfc.Raw)(v0 v1 v2 v3:Value),TreeC w t v0 v1 v2 v3→t.short 1000000
 | .node k n p ts, v0, v1, v2, v3, h => by
  rw[TreeC] at h
  obtain⟨_,_,hn,_,A,c,_,_,h5⟩:=h
  rw[Lfc.Raw.short]
  refine⟨hn,?_⟩
  cases ts with
  |nil=>rw[Lfc.Raw.shorts];trivial
  |cons a r =>
   obtain⟨b,o,_,_,hts⟩:=h5 (by simp)
   exact TreesO.short (a :: r) b o hts
theorem TreesO.short{w:World}:∀(ts:List Lfc.Raw)(b o:Nat),TreesO w b ts o→Lfc.Raw.shorts 1000000 ts
 |[],_,_,_=>by rw[Lfc.Raw.shorts];trivial
 |t :: r,b,o,h=>by
  rw[TreesO] at h
  obtain⟨⟨v0,v1,v2,v3,_,_,_,_,ht⟩,hr⟩:=h
  rw[Lfc.Raw.shorts]
  exact⟨TreeC.short t v0 v1 v2 v3 ht,TreesO.short r b (o+4) hr⟩
end
theorem TreeV.short{w:World}{t:Lfc.Raw}{v:Value}(h:TreeV w t v):t.short 1000000:=by
 obtain⟨v0,v1,v2,v3,_,h⟩:=h
 exact TreeC.short t v0 v1 v2 v3 h
end Go.Proofs.YthajalgkjonaaaaGreatDoor
namespace Lfc
theorem name_at{n:List UInt8}(h:isName n=true):¬(n.headD 0).toNat=64:=by
 unfold isName at h
 simp only[Bool.and_eq_true,decide_eq_true_eq] at h
 exact h.2
def Stop(s:List UInt8):Prop:=∀c r,s=c :: r→nameB c=false
end Lfc
namespace Lfc
def kt(t:Tok):Int × List UInt8:=(t.kind,t.text)
def Any(z:List UInt8):Prop:=True
theorem brk_len:∀(l:List UInt8)(p:Bool),brk p l≤l.length
 |[],_=>by simp[brk]
 |c :: r,p=>by
  have:=brk_len r (letterB c)
  simp only[brk,List.length_cons]
  split <;> omega
end Lfc
namespace Lfc
def Clean(y:List UInt8):Prop:=(∀n,(sc n y).2.1=0)∧∀n z,(sc (n+y.length) z).2.1=0→sc n (y++z)=((sc n y).1++(sc (n+y.length) z).1,(sc (n+y.length) z).2)
theorem sc_zero(y:List UInt8)(h:(sc 0 y).2.1=0)(n:Nat):(sc n y).2.1=0:=by
 have:=sc_shift n y 0
 rw[Nat.zero_add] at this
 rw[this]
 exact h
theorem Clean.app{a b:List UInt8}(ha:Clean a)(hb:Clean b):Clean (a++b)∧∀n,(sc n (a++b)).1=(sc n a).1++(sc (n+a.length) b).1:=by
 have h1:∀n,sc n (a++b)=((sc n a).1++(sc (n+a.length) b).1,(sc (n+a.length) b).2):=fun n=>ha.2 n b (hb.1 _)
 refine⟨⟨fun n=>by rw[h1];exact hb.1 _,fun n z h=>?_⟩,fun n=>by rw[h1]⟩
 have e:n+(a++b).length=n+a.length+b.length:=by simp;omega
 rw[e] at h ⊢
 have h2:=hb.2 (n+a.length) z h
 rw[List.append_assoc,ha.2 n (b++z) (by rw[h2];exact h),h1,h2]
 simp
theorem dot_shift(n:Nat)(x:List UInt8):(sc n x).1.countP dotB=(sc 0 x).1.countP dotB:=by
 have:=sc_shift n x 0
 rw[Nat.zero_add] at this
 rw[this]
 unfold shift
 rw[List.countP_map]
 rfl
end Lfc
namespace Lfc
def libs:List (List UInt8):=[[110,97,116,32,58,32,116,121,112,101,46,32,122,32,58,32,110,97,116,46,32,115,32,58,32,110,97,116,32,45,62,32,110,97,116,46,10,112,108,117,115,32,58,32,110,97,116,32,45,62,32,110,97,116,32,45,62,32,110,97,116,32,45,62,32,116,121,112,101,46,10,112,108,117,115,47,122,32,58,32,112,108,117,115,32,122,32,78,32,78,46,10,112,108,117,115,47,115,32,58,32,112,108,117,115,32,40,115,32,77,41,32,78,32,40,115,32,80,41,32,60,45,32,112,108,117,115,32,77,32,78,32,80,46],
 [110,97,116,32,58,32,116,121,112,101,46,32,122,32,58,32,110,97,116,46,32,115,32,58,32,110,97,116,32,45,62,32,110,97,116,46,10,112,108,117,115,32,58,32,110,97,116,32,45,62,32,110,97,116,32,45,62,32,110,97,116,32,45,62,32,116,121,112,101,46,10,112,108,117,115,47,122,32,58,32,112,108,117,115,32,122,32,78,32,78,46,10,112,108,117,115,47,115,32,58,32,112,108,117,115,32,40,115,32,77,41,32,78,32,40,115,32,80,41,32,60,45,32,112,108,117,115,32,77,32,78,32,80,46,10,118,101,99,32,58,32,110,97,116,32,45,62,32,116,121,112,101,46,32,110,105,108,32,58,32,118,101,99,32,122,46,32,99,111,110,115,32,58,32,110,97,116,32,45,62,32,118,101,99,32,78,32,45,62,32,118,101,99,32,40,115,32,78,41,46,10,97,112,112,101,110,100,32,58,32,118,101,99,32,77,32,45,62,32,118,101,99,32,78,32,45,62,32,112,108,117,115,32,77,32,78,32,80,32,45,62,32,118,101,99,32,80,32,45,62,32,116,121,112,101,46,10,97,112,112,101,110,100,47,110,105,108,32,58,32,97,112,112,101,110,100,32,110,105,108,32,86,32,112,108,117,115,47,122,32,86,46,10,97,112,112,101,110,100,47,99,111,110,115,32,58,32,97,112,112,101,110,100,32,40,99,111,110,115,32,88,32,86,41,32,87,32,40,112,108,117,115,47,115,32,68,41,32,40,99,111,110,115,32,88,32,85,41,32,60,45,32,97,112,112,101,110,100,32,86,32,87,32,68,32,85,46],
 [116,112,32,58,32,116,121,112,101,46,32,98,97,115,101,32,58,32,116,112,46,32,97,114,114,32,58,32,116,112,32,45,62,32,116,112,32,45,62,32,116,112,46,32,37,105,110,102,105,120,32,114,105,103,104,116,32,49,48,32,97,114,114,46,10,116,109,32,58,32,116,121,112,101,46,32,108,97,109,32,58,32,40,116,109,32,45,62,32,116,109,41,32,45,62,32,116,109,46,32,97,112,112,32,58,32,116,109,32,45,62,32,116,109,32,45,62,32,116,109,46,10,111,102,32,58,32,116,109,32,45,62,32,116,112,32,45,62,32,116,121,112,101,46,10,111,102,47,108,97,109,32,58,32,111,102,32,40,108,97,109,32,69,41,32,40,65,32,97,114,114,32,66,41,32,60,45,32,40,123,120,125,32,111,102,32,120,32,65,32,45,62,32,111,102,32,40,69,32,120,41,32,66,41,46,10,111,102,47,97,112,112,32,58,32,111,102,32,40,97,112,112,32,77,32,78,41,32,66,32,60,45,32,111,102,32,78,32,65,32,60,45,32,111,102,32,77,32,40,65,32,97,114,114,32,66,41,46,10,37,98,108,111,99,107,32,98,105,110,100,32,58,32,115,111,109,101,32,123,65,58,116,112,125,32,98,108,111,99,107,32,123,120,58,116,109,125,32,123,100,58,111,102,32,120,32,65,125,46,10,37,119,111,114,108,100,115,32,40,98,105,110,100,41,32,111,102,46],
 [116,112,32,58,32,116,121,112,101,46,32,98,97,115,101,32,58,32,116,112,46,32,97,114,114,32,58,32,116,112,32,45,62,32,116,112,32,45,62,32,116,112,46,10,116,109,32,58,32,116,112,32,45,62,32,116,121,112,101,46,32,108,97,109,32,58,32,40,116,109,32,65,32,45,62,32,116,109,32,66,41,32,45,62,32,116,109,32,40,97,114,114,32,65,32,66,41,46,32,97,112,112,32,58,32,116,109,32,40,97,114,114,32,65,32,66,41,32,45,62,32,116,109,32,65,32,45,62,32,116,109,32,66,46,10,101,118,97,108,32,58,32,116,109,32,65,32,45,62,32,116,109,32,65,32,45,62,32,116,121,112,101,46,10,101,118,97,108,47,108,97,109,32,58,32,101,118,97,108,32,40,108,97,109,32,69,41,32,40,108,97,109,32,69,41,46,10,101,118,97,108,47,97,112,112,32,58,32,101,118,97,108,32,40,97,112,112,32,77,32,78,41,32,86,32,60,45,32,101,118,97,108,32,40,69,32,78,41,32,86,32,60,45,32,101,118,97,108,32,77,32,40,108,97,109,32,69,41,46],
 [111,32,58,32,116,121,112,101,46,32,38,32,58,32,111,32,45,62,32,111,32,45,62,32,111,46,32,37,105,110,102,105,120,32,114,105,103,104,116,32,50,48,32,38,46,32,61,62,32,58,32,111,32,45,62,32,111,32,45,62,32,111,46,32,37,105,110,102,105,120,32,114,105,103,104,116,32,49,48,32,61,62,46,32,105,32,58,32,116,121,112,101,46,32,97,108,108,32,58,32,40,105,32,45,62,32,111,41,32,45,62,32,111,46,32,112,32,58,32,105,32,45,62,32,111,46,32,99,32,58,32,105,46,32,102,32,58,32,105,32,45,62,32,105,46,10,112,114,102,32,58,32,111,32,45,62,32,116,121,112,101,46,10,38,105,32,58,32,112,114,102,32,65,32,45,62,32,112,114,102,32,66,32,45,62,32,112,114,102,32,40,65,32,38,32,66,41,46,32,38,108,32,58,32,112,114,102,32,40,65,32,38,32,66,41,32,45,62,32,112,114,102,32,65,46,10,61,62,105,32,58,32,40,112,114,102,32,65,32,45,62,32,112,114,102,32,66,41,32,45,62,32,112,114,102,32,40,65,32,61,62,32,66,41,46,32,61,62,101,32,58,32,112,114,102,32,40,65,32,61,62,32,66,41,32,45,62,32,112,114,102,32,65,32,45,62,32,112,114,102,32,66,46,10,97,108,108,105,32,58,32,40,123,120,58,105,125,32,112,114,102,32,40,65,32,120,41,41,32,45,62,32,112,114,102,32,40,97,108,108,32,65,41,46,32,97,108,108,101,32,58,32,112,114,102,32,40,97,108,108,32,65,41,32,45,62,32,123,116,58,105,125,32,112,114,102,32,40,65,32,116,41,46]]
def extra0:List (List UInt8):=[[116,119,111,32,61,32,115,32,40,115,32,122,41,46],
 [111,110,101,32,58,32,110,97,116,32,61,32,115,32,122,46],
 [100,111,117,98,108,101,32,58,32,110,97,116,32,45,62,32,110,97,116,32,45,62,32,116,121,112,101,46,32,100,111,117,98,108,101,47,122,32,58,32,100,111,117,98,108,101,32,122,32,122,46,32,100,111,117,98,108,101,47,115,32,58,32,100,111,117,98,108,101,32,40,115,32,78,41,32,40,115,32,40,115,32,77,41,41,32,60,45,32,100,111,117,98,108,101,32,78,32,77,46],
 [101,118,101,110,32,58,32,110,97,116,32,45,62,32,116,121,112,101,46,32,111,100,100,32,58,32,110,97,116,32,45,62,32,116,121,112,101,46,32,101,118,101,110,47,122,32,58,32,101,118,101,110,32,122,46,32,101,118,101,110,47,115,32,58,32,101,118,101,110,32,40,115,32,78,41,32,60,45,32,111,100,100,32,78,46,32,111,100,100,47,115,32,58,32,111,100,100,32,40,115,32,78,41,32,60,45,32,101,118,101,110,32,78,46],
 [37,109,111,100,101,32,112,108,117,115,32,43,32,43,32,45,46],
 [37,113,117,101,114,121,32,51,32,112,108,117,115,32,88,32,89,32,40,115,32,40,115,32,122,41,41,46],
 [37,119,111,114,108,100,115,32,40,41,32,112,108,117,115,46],
 [37,116,111,116,97,108,32,112,108,117,115,32,49,46],
 [108,116,32,58,32,110,97,116,32,45,62,32,110,97,116,32,45,62,32,116,121,112,101,46,32,108,116,47,122,32,58,32,108,116,32,122,32,40,115,32,78,41,46,32,108,116,47,115,32,58,32,108,116,32,40,115,32,77,41,32,40,115,32,78,41,32,60,45,32,108,116,32,77,32,78,46],
 [105,100,32,58,32,110,97,116,32,45,62,32,110,97,116,32,61,32,91,120,93,32,120,46],
 [37,116,101,114,109,105,110,97,116,101,115,32,112,108,117,115,32,123,32,49,32,50,32,125,46],
 [37,114,101,100,117,99,101,115,32,112,108,117,115,32,49,32,60,61,32,51,46]]
def extra2:List (List UInt8):=[[105,100,116,32,61,32,108,97,109,32,40,91,120,93,32,120,41,46],
 [37,109,111,100,101,32,111,102,32,43,32,45,46],
 [115,105,122,101,32,58,32,116,109,32,45,62,32,116,121,112,101,46,32,115,105,122,101,47,97,112,112,32,58,32,115,105,122,101,32,40,97,112,112,32,77,32,78,41,32,60,45,32,115,105,122,101,32,77,32,60,45,32,115,105,122,101,32,78,46],
 [37,113,117,101,114,121,32,49,32,111,102,32,40,108,97,109,32,40,91,120,93,32,120,41,41,32,84,46],
 [107,32,58,32,116,109,32,61,32,108,97,109,32,40,91,120,93,32,108,97,109,32,40,91,121,93,32,120,41,41,46],
 [118,97,108,117,101,32,58,32,116,109,32,45,62,32,116,121,112,101,46,32,118,97,108,117,101,47,108,97,109,32,58,32,118,97,108,117,101,32,40,108,97,109,32,69,41,46]]
def extra3:List (List UInt8):=[[105,100,116,32,58,32,116,109,32,40,97,114,114,32,98,97,115,101,32,98,97,115,101,41,32,61,32,108,97,109,32,40,91,120,93,32,120,41,46],
 [37,109,111,100,101,32,101,118,97,108,32,43,32,45,46],
 [37,113,117,101,114,121,32,50,32,101,118,97,108,32,40,97,112,112,32,40,108,97,109,32,40,91,120,93,32,120,41,41,32,40,108,97,109,32,40,91,121,58,116,109,32,98,97,115,101,93,32,121,41,41,41,32,86,46],
 [115,101,108,102,32,58,32,116,109,32,65,32,45,62,32,116,109,32,65,32,61,32,91,120,93,32,120,46]]
def extra4:List (List UInt8):=[[116,111,112,32,58,32,111,32,61,32,97,108,108,32,40,91,120,93,32,112,32,120,32,61,62,32,112,32,120,41,46],
 [116,97,117,116,32,58,32,112,114,102,32,40,65,32,61,62,32,65,41,32,61,32,61,62,105,32,40,91,117,93,32,117,41,46],
 [37,113,117,101,114,121,32,49,32,112,114,102,32,40,112,32,99,32,61,62,32,112,32,99,41,46],
 [126,32,58,32,111,32,45,62,32,111,46,32,37,112,114,101,102,105,120,32,51,48,32,126,46],
 [98,111,116,104,32,58,32,112,114,102,32,65,32,45,62,32,112,114,102,32,66,32,45,62,32,112,114,102,32,40,66,32,38,32,65,41,32,61,32,91,117,93,32,91,118,93,32,38,105,32,118,32,117,46]]
def extras(k:Nat):List (List UInt8):=if k=0∨k=1 then extra0 else if k=2 then extra2 else if k=3 then extra3 else extra4
def opEq(a b:Op):Bool:=decide (a.name=b.name) && decide (a.fix=b.fix) && decide (a.prec=b.prec)
def opsEq:List Op→List Op→Bool
 |[],[]=>true
 |a :: r,b :: q=>opEq a b && opsEq r q
 |_,_=>false
theorem opsEq_eq:∀{l q:List Op},opsEq l q=true→l=q
 |[],[],_=>rfl
 |[],_ :: _,h=>by simp[opsEq] at h
 |_ :: _,[],h=>by simp[opsEq] at h
 |⟨a1,a2,a3⟩ :: r,⟨b1,b2,b3⟩ :: q,h=>by
  simp only[opsEq,opEq,Bool.and_eq_true,decide_eq_true_eq] at h
  obtain⟨⟨⟨rfl,rfl⟩,rfl⟩,h⟩:=h
  rw[opsEq_eq h]
def libOps(k:Nat)(u:Bool):List Op:=if k=2 then [⟨[97,114,114],5,10⟩] else if k=4 then [⟨[38],5,20⟩,⟨[61,62],5,10⟩]++(if u then [⟨[126],1,30⟩] else []) else []
def reads(s:List UInt8)(l q:List Op):Bool:=decide ((sc 0 s).2.1=0) && decide ((sc 0 s).1.countP dotB≤60) && decide (s.length≤400) && (match itemsP (sc 0 s).1 s.length l with
 |.ok x _=>opsEq x.2 q
 |_=>false)
theorem libs_ok:(List.range 5).all (fun k=>reads (libs.getD k []++[10]) [] (libOps k false) && decide ((sc 0 (libs.getD k [])).2.1=0))=true:=by decide +kernel
theorem extras_lex:(List.range 5).all (fun k=>(List.range (extras k).length).all fun i=>decide ((sc 0 ((extras k).getD i [])).2.1=0))=true:=by decide +kernel
theorem extras_ok:(List.range 5).all (fun k=>(List.range (extras k).length).all fun i =>
  if k=4∧i=3 then reads ((extras k).getD i []++[10]) (libOps k false) (libOps k true) else reads ((extras k).getD i []++[10]) (libOps k false) (libOps k false) && reads ((extras k).getD i []++[10]) (libOps k true) (libOps k true))=true:=by decide +kernel
end Lfc
namespace Lfc
theorem pk_like{T T':List Tok}(h:T.map kt=T'.map kt)(n m:Nat)(l:List Op)(k:Nat):kt (PE.pk ⟨T',m,l⟩ k)=kt (PE.pk ⟨T,n,l⟩ k):=by
 have hk:(T.map kt)[k]?=(T'.map kt)[k]?:=by rw[h]
 unfold PE.pk
 simp only[List.getD_eq_getElem?_getD]
 rw[List.getElem?_map,List.getElem?_map] at hk
 cases h1:T[k]? with
 |none =>
  rw[h1] at hk
  cases h2:T'[k]? with
  |none=>rfl
  |some t=>rw[h2] at hk;cases hk
 | some t =>
  rw[h1] at hk
  cases h2:T'[k]? with
  |none=>rw[h2] at hk;cases hk
  |some t' =>
   rw[h2] at hk
   exact(Option.some.inj hk).symm
theorem rel_like{T T':List Tok}(h:T.map kt=T'.map kt)(n m:Nat)(l:List Op):Rel ⟨T,n,l⟩ ⟨T',m,l⟩ 0 (fun _=>True) (fun _ _=>True) False where
 ops:=rfl
 le:=by have:=congrArg List.length h;simp at this;show T.length≤T'.length;omega
 down:=fun _ _ _ _=>trivial
 kind:=fun k _=>congrArg Prod.fst (pk_like h n m l k)
 text:=fun k _=>congrArg Prod.snd (pk_like h n m l k)
 pos:=fun _ _=>trivial
 all:=fun h=>h.elim
 len:=fun h=>h.elim
 fin:=fun h=>h.elim
theorem items_like{T T':List Tok}(h:T.map kt=T'.map kt)(n m:Nat):∀(f k:Nat)(l:List Op)(acc acc':List Itm)(x:List Itm × List Op)(k':Nat),itemsF T n f k l acc=.ok x k'→acc.map Itm.strip=acc'.map Itm.strip →
  ∃c,itemsF T' m f k l acc'=.ok (c,x.2) k'∧x.1.map Itm.strip=c.map Itm.strip
 |0,_,_,_,_,_,_,h,_=>nomatch h
 | f + 1, k, l, acc, acc', x, k', he, ha => by
  have hT:T.length=T'.length:=by have:=congrArg List.length h;simpa using this
  have hlen:acc.length=acc'.length:=by have:=congrArg List.length ha;simpa using this
  rw[itemsF] at he ⊢
  rw[←hT]
  split at he
  ·rename_i hlt
   rw[if_pos hlt]
   obtain⟨y,k1,e1,e2⟩:=PR.then_ok he
   have hne:=item_lt e1
   obtain⟨_,hS⟩:=(sim_item (rel_like h n m l) acc.length acc'.length k hne (by rw[←hlen];exact hne)).1 y k1 e1
   obtain⟨z,e3,hz1,hz2⟩:=hS trivial
   have e3':PE.itemP ⟨T',m,l⟩ acc'.length k=.ok z k1:=e3
   rw[e3']
   have:=items_like h n m f k1 y.2 (acc++[y.1]) (acc'++[z.1]) x k' e2 (by rw[List.map_append,List.map_append,ha,List.map_cons,List.map_cons,hz1])
   rw[hz2] at this
   exact this
  ·rename_i hlt
   rw[if_neg hlt]
   cases he
   exact⟨acc',rfl,ha⟩
theorem ext_like{s s':List UInt8}{T T':List Tok}(h1:lex s=(T,0,s.length))(h2:lex s'=(T',0,s'.length))(h:T.map kt=T'.map kt){a:List Itm}{ops:List Op}{k:Nat}(he:extendP [] s=.ok (a,ops) k):∃c k',extendP [] s'=.ok (c,ops) k'∧a.map Itm.strip=c.map Itm.strip:=by
 have e1:extendP [] s=itemsP T s.length []:=by unfold extendP;rw[h1];rfl
 have e2:extendP [] s'=itemsP T' s'.length []:=by unfold extendP;rw[h2];rfl
 rw[e1] at he
 unfold itemsP at he
 obtain⟨c,e3,e4⟩:=items_like h s.length s'.length _ _ _ _ [] _ _ he rfl
 refine⟨c,k,?_,e4⟩
 rw[e2]
 unfold itemsP
 have hT:T.length=T'.length:=by have:=congrArg List.length h;simpa using this
 rw[←hT]
 exact e3
def gaps4:List (List UInt8):=[[32],[10,10],[32,37,32,120,10],[32,37,123,32,121,32,125,37,32]]
theorem gaps4_ok:∀g∈gaps4,gapOk g∧g.length≤9:=by
 intro g hg
 have H:g=[32]∨g=[10,10]∨g=[32,37,32,120,10]∨g=[32,37,123,32,121,32,125,37,32]:=by simpa[gaps4] using hg
 rcases H with rfl | rfl | rfl | rfl
 ·exact⟨⟨⟨32,[],rfl,by decide⟩,fun n z=>by rw[List.cons_append,sc_blank _ _ _ (by decide)];rfl⟩,by decide⟩
 ·exact⟨⟨⟨10,[10],rfl,by decide⟩,fun n z=>by rw[List.cons_append,sc_blank _ _ _ (by decide),List.cons_append,sc_blank _ _ _ (by decide)];rfl⟩,by decide⟩
 ·refine⟨⟨⟨32,_,rfl,by decide⟩,fun n z=>?_⟩,by decide⟩
  rw[List.cons_append,sc_blank _ _ _ (by decide)]
  have:=sc_line (n+1) [32,120] z (by decide) (fun d q h=>by cases h;decide)
  rw[show([37,32,120,10]++z:List UInt8)=37 :: ([32,120]++10 :: z) from rfl,this,sc_blank _ _ _ (by decide)]
  rfl
 ·refine⟨⟨⟨32,_,rfl,by decide⟩,fun n z=>?_⟩,by decide⟩
  rw[List.cons_append,sc_blank _ _ _ (by decide)]
  have:=sc_block (n+1) 7 [32,121,32,125,37] (32 :: z) (fun y=>by rfl) rfl
  rw[show([37,123,32,121,32,125,37,32]++z:List UInt8)=37 :: 123 :: ([32,121,32,125,37]++32 :: z) from rfl,this,sc_blank _ _ _ (by decide)]
  rfl
theorem rend_len:∀ps:List (Tok × List UInt8),(∀p∈ps,p.2.length≤9)→(rend ps).length≤((ps.map Prod.fst).flatMap spT).length+9*ps.length
 |[],_=>by simp[rend]
 |p :: r,h=>by
  have h1:=rend_len r (fun q hq=>h q (List.mem_cons_of_mem _ hq))
  have h2:=h p (List.mem_cons_self)
  unfold rend at h1 ⊢
  simp only[List.flatMap_cons,List.length_append,List.map_cons,List.length_cons] at h1 ⊢
  omega
theorem blank_law{s:List UInt8}{T:List Tok}(hs:s.length≤1900)(h1:lex s=(T,0,s.length)){a:List Itm}{ops:List Op}{k:Nat}(he:extendP [] s=.ok (a,ops) k)(ps:List (Tok × List UInt8))(hp:ps.map Prod.fst=T)(hg:∀p∈ps,p.2∈gaps4) :
  (rend ps).length≤20000∧(lex (rend ps)).2.1=0∧∃c k',extendP [] (rend ps)=.ok (c,ops) k'∧a.map Itm.strip=c.map Itm.strip:=by
 have hl:lex s=sc 0 s:=lex_sc' s (by omega) (Nat.le_trans (brk_len s false) (by omega))
 rw[hl] at h1
 have hv:=sc_valid s 0
 have hst:=sc_stands s s 0 0 (Nat.zero_le _) rfl (Nat.le_refl _)
 rw[h1] at hv hst
 have hlen:=stands_len s T 0 (Nat.zero_le _) hst
 have hcnt:=sc_count s 0
 rw[h1] at hcnt
 have hT:T.length≤1900:=Nat.le_trans hcnt (Nat.le_trans (brk_len s false) hs)
 have hps:ps.length=T.length:=by rw[←hp];simp
 have hr:=rend_len ps (fun p hp=>(gaps4_ok _ (hg p hp)).2)
 rw[hp] at hr
 have hrl:(rend ps).length≤20000:=by omega
 obtain⟨ts,e1,e2⟩:=sc_rend ps (fun p hq=>⟨hv _ (by rw[←hp];exact List.mem_map.2 ⟨p,hq,rfl⟩),(gaps4_ok _ (hg p hq)).1⟩) 0
 have hl2:lex (rend ps)=sc 0 (rend ps):=lex_sc' _ (by omega) (Nat.le_trans (brk_len _ false) hrl)
 rw[Nat.zero_add] at e1
 refine⟨hrl,by rw[hl2,e1],?_⟩
 refine ext_like (by rw[hl,h1]) (by rw[hl2,e1]) ?_ he
 have:sameKT ts (ps.map Prod.fst):=e2
 rw[hp] at this
 exact this.symm
def Made(s:List UInt8)(q:List Op)(n:Nat):Prop:=Clean s∧s.length≤400*n∧(sc 0 s).1.countP dotB≤60*n∧∃a k,itemsP (sc 0 s).1 s.length []=.ok (a,q) k
theorem clean_nl(x:List UInt8)(hx:(sc 0 x).2.1=0):Clean (x++[10]):=by
 have h10:∀n,(sc n x).2.1=0:=sc_zero x hx
 have J:=fun n z=>sc_join x z n (h10 n)
 have J0:=fun n=>J n []
 simp only[sc_nil,if_true,List.append_nil] at J0
 refine⟨fun n=>by rw[J0],fun n z h=>?_⟩
 have e:n+(x++[10]).length=n+x.length+1:=by simp;omega
 rw[e] at h ⊢
 rw[J0,List.append_assoc]
 show sc n (x++10 :: z)=_
 rw[J,if_pos h]
theorem reads_ok{s:List UInt8}{l q:List Op}(h:reads s l q=true):(sc 0 s).2.1=0∧(sc 0 s).1.countP dotB≤60∧s.length≤400∧∃a k,itemsP (sc 0 s).1 s.length l=.ok (a,q) k:=by
 unfold reads at h
 simp only[Bool.and_eq_true,decide_eq_true_eq] at h
 obtain⟨⟨⟨h1,h2⟩,h3⟩,h4⟩:=h
 refine⟨h1,h2,h3,?_⟩
 split at h4
 ·rename_i x k e
  exact⟨x.1,k,by rw[e,←opsEq_eq h4]⟩
 ·cases h4
theorem made_lib(k:Nat)(hk:k<5):Made (libs.getD k []++[10]) (libOps k false) 1:=by
 have h:=List.all_eq_true.1 libs_ok k (List.mem_range.2 hk)
 simp only[Bool.and_eq_true,decide_eq_true_eq] at h
 obtain⟨h1,h2,h3,h4⟩:=reads_ok h.1
 exact⟨clean_nl _ h.2,by omega,by omega,h4⟩
theorem made_more{s e:List UInt8}{l q:List Op}{n:Nat}(h:Made s l n)(hn:n≤4)(he:(sc 0 e).2.1=0)(hr:reads (e++[10]) l q=true):Made (s++(e++[10])) q (n+1):=by
 obtain⟨c1,c2,c3,a,k,hp⟩:=h
 obtain⟨h1,h2,h3,b,k2,h4⟩:=reads_ok hr
 have hc:=clean_nl e he
 obtain⟨d1,d2⟩:=c1.app hc
 have hB:(sc (0+s.length) (e++[10])).1=(sc 0 (e++[10])).1.map (Tok.up s.length):=by
  have:=sc_shift s.length (e++[10]) 0
  rw[this]
  rfl
 refine⟨d1,by rw[List.length_append];omega,?_,?_⟩
 ·have hd:=dot_shift (0+s.length) (e++[10])
  rw[d2,List.countP_append]
  omega
 ·obtain⟨_,i2⟩:=items_split (sc 0 s).1 (sc 0 (e++[10])).1 (e++[10]).length s.length (by omega) hp
  obtain⟨c,k3,e1,_⟩:=i2 b q k2 h4
  refine⟨c,k3,?_⟩
  have hlen:(s++(e++[10])).length=(e++[10]).length+s.length:=by rw[List.length_append];omega
  rw[d2,hB,hlen]
  exact e1
theorem made_extra{s:List UInt8}{k i n:Nat}{u:Bool}(hk:k<5)(hi:i<(extras k).length)(h:Made s (libOps k u) n)(hn:n≤4)(hu:k=4→i=3→u=false):Made (s++((extras k).getD i []++[10])) (libOps k (u || (decide (k=4) && decide (i=3)))) (n+1):=by
 have h1:=List.all_eq_true.1 (List.all_eq_true.1 extras_ok k (List.mem_range.2 hk)) i (List.mem_range.2 hi)
 have h2:=List.all_eq_true.1 (List.all_eq_true.1 extras_lex k (List.mem_range.2 hk)) i (List.mem_range.2 hi)
 simp only[decide_eq_true_eq] at h2
 by_cases h43:k=4∧i=3
 ·rw[if_pos h43] at h1
  obtain rfl:=hu h43.1 h43.2
  obtain⟨rfl,rfl⟩:=h43
  exact made_more h hn h2 h1
 ·rw[if_neg h43,Bool.and_eq_true] at h1
  have e:(u || (decide (k=4) && decide (i=3)))=u:=by
   cases u
   ·simp only[Bool.false_or,Bool.and_eq_false_iff,decide_eq_false_iff_not]
    by_cases h:k=4
    ·exact .inr fun h'=>h43 ⟨h,h'⟩
    ·exact .inl h
   ·rfl
  rw[e]
  cases u
  ·exact made_more h hn h2 h1.1
  ·exact made_more h hn h2 h1.2
theorem made_ext{s:List UInt8}{q:List Op}{n:Nat}(h:Made s q n)(hn:n≤4):s.length≤1600∧lex s=((sc 0 s).1,0,s.length)∧∃a k,extendP [] s=.ok (a,q) k:=by
 obtain⟨c1,c2,c3,a,k,hp⟩:=h
 have hl:lex s=sc 0 s:=lex_sc' s (by omega) (Nat.le_trans (brk_len s false) (by omega))
 have hs:lex s=((sc 0 s).1,0,s.length):=by
  rw[hl]
  refine Prod.ext rfl (Prod.ext (c1.1 0) ?_)
  have:=sc_end s 0 (c1.1 0)
  rw[Nat.zero_add] at this
  exact this
 refine⟨by omega,hs,a,k,?_⟩
 unfold extendP
 rw[hs]
 exact hp
end Lfc
namespace Go.Proofs.YthajalgkjonaaaaGreatDoor
open Go.RowKit
theorem sizes_take(ts:List Lfc.Raw)(k:Nat)(h:k<ts.length):Lfc.Raw.sizes (ts.take (k+1))=Lfc.Raw.sizes (ts.take k)+ts[k].size:=by
 rw[List.take_succ_eq_append_getElem h,Lfc.Raw.sizes_app];simp[Lfc.Raw.sizes]
theorem depths_take(ts:List Lfc.Raw)(k:Nat)(h:k<ts.length):Lfc.Raw.depths (ts.take (k+1))=max (Lfc.Raw.depths (ts.take k)) ts[k].depth:=by
 rw[List.take_succ_eq_append_getElem h,Lfc.Raw.depths_app];simp[Lfc.Raw.depths]
theorem sizes_take_le(ts:List Lfc.Raw)(k:Nat):Lfc.Raw.sizes (ts.take k)≤Lfc.Raw.sizes ts:=by
 have:Lfc.Raw.sizes ts=Lfc.Raw.sizes (ts.take k)+Lfc.Raw.sizes (ts.drop k):=by rw[←Lfc.Raw.sizes_app,List.take_append_drop]
 omega
set_option maxRecDepth 100000 in
set_option maxHeartbeats 1000000 in
theorem size_any(m:Nat):∀(t:Lfc.Raw)(v:Value)(w:World),t.size≤m→t.size≤1000000000→TreeV w t v →
  Calls Tryz.prog 104 #[v] w fun e w'=>e=.returned (.int .i64 (t.size:Int))∧Below w.heap.size w w':=by
 induction m with
 |zero=>intro t v w h _ _;have:=t.size_pos;omega
 | succ m ih =>
  intro t v w hm hmax hv
  obtain⟨kd,nm,ps,ts⟩:=t
  obtain⟨A,c,rfl,hc,hA⟩:=hv.open_
  simp only[Lfc.Raw.size] at hm hmax ⊢
  have hlen:=Lfc.Raw.sizes_len ts
  have IH:=Lib.hid ih
  have b0:Below w.heap.size w (w.alloc (.cells #[.int .i64 kd,S nm,.int .i64 ps,.slice A ts.length c] 46)):=(Below.refl _ _).alloc (Nat.le_refl _) _
  have HA:=Lib.hid hA
  clear ih hA hv
  go_enter Tryz.func104,Tryz.ntmps104
  go_wp2_with fail
  go_loopw [3,9] (fun n i wr=>∃k:Nat,k≤ts.length∧i=.int .i64 k∧n=.int .i64 ((Lfc.Raw.sizes (ts.take k)+1:Nat):Int)∧Below w.heap.size w wr) (fun _ i _=>ts.length-(intOf i).toNat)
  case atStart=>exact⟨0,by omega,rfl,by simp[Lfc.Raw.sizes],b0⟩
  case round =>
   obtain⟨k,hk,rfl,rfl,hbw⟩:=hrel
   have hle:=sizes_take_le ts k
   by_cases hlt:k<ts.length
   ·obtain⟨b,o,k1,n1,p1,us,B,c1,rfl,hb,ht,c0',c1',c2',c3',hcu,hB,hT⟩:=(HA.out.below hbw).at_ hlt
    have hst:=sizes_take ts k hlt
    have hle2:=sizes_take_le ts (k+1)
    have hmem:=Lfc.Raw.sizes_mem ts ts[k] (List.getElem_mem _)
    have HS:=Lib.hid hst
    clear hB ht
    have b1:Below wr.heap.size wr (wr.alloc (.cells #[.int .i64 k1,S n1,.int .i64 p1,.slice B us.length c1] 46)):=(Below.refl _ _).alloc (Nat.le_refl _) _
    have hT2:=hT.below b1
    generalize hZ:ts[k].size=z at *
    generalize Lfc.Raw.sizes (ts.take k)=y at *
    have HZ:=Lib.hid hZ
    clear hZ hst
    go_wp2_with fail
    refine(IH.out ts[k] _ _ (by rw[HZ.out];omega) (by rw[HZ.out];omega) hT2).mono ?_
    rintro e w1⟨rfl,hb1⟩
    rw[HZ.out]
    have hyz:y+z≤Lfc.Raw.sizes ts:=by have:=HS.out;omega
    go_wp2_with fail
    go_roundw
    case rel=>exact⟨k+1,by omega,by go_num,by rw[HS.out];go_num,hbw.trans ((b1.mono hbw.size).trans (hb1.mono (Nat.le_trans hbw.size b1.size)))⟩
    case measure=>simp[intOf];omega
   ·have hkl:k=ts.length:=by omega
    go_wp2_with fail
    go_ret
    exact⟨ret_int (by rw[hkl,List.take_length]),hbw⟩
theorem depths_le(l:List Lfc.Raw):Lfc.Raw.depths l≤Lfc.Raw.sizes l:=by
 induction l with
 |nil=>simp[Lfc.Raw.depths,Lfc.Raw.sizes]
 |cons a r ih=>have:=Lfc.Raw.depth_le_size _ a (Nat.le_refl _);simp only[Lfc.Raw.depths,Lfc.Raw.sizes];omega
set_option maxRecDepth 100000 in
set_option maxHeartbeats 1000000 in
theorem depth_any(m:Nat):∀(t:Lfc.Raw)(v:Value)(w:World),t.size≤m→t.size≤1000000000→TreeV w t v →
  Calls Tryz.prog 105 #[v] w fun e w'=>e=.returned (.int .i64 (t.depth:Int))∧Below w.heap.size w w':=by
 induction m with
 |zero=>intro t v w h _ _;have:=t.size_pos;omega
 | succ m ih =>
  intro t v w hm hmax hv
  obtain⟨kd,nm,ps,ts⟩:=t
  obtain⟨A,c,rfl,hc,hA⟩:=hv.open_
  simp only[Lfc.Raw.size] at hm hmax
  simp only[Lfc.Raw.depth]
  have hlen:=Lfc.Raw.sizes_len ts
  have IH:=Lib.hid ih
  have b0:Below w.heap.size w (w.alloc (.cells #[.int .i64 kd,S nm,.int .i64 ps,.slice A ts.length c] 46)):=(Below.refl _ _).alloc (Nat.le_refl _) _
  have HA:=Lib.hid hA
  clear ih hA hv
  go_enter Tryz.func105,Tryz.ntmps105
  go_wp2_with fail
  go_loopw [3,9] (fun n i wr=>∃k:Nat,k≤ts.length∧i=.int .i64 k∧n=.int .i64 ((Lfc.Raw.depths (ts.take k):Nat):Int)∧Below w.heap.size w wr) (fun _ i _=>ts.length-(intOf i).toNat)
  case atStart=>exact⟨0,by omega,rfl,by simp[Lfc.Raw.depths],b0⟩
  case round =>
   obtain⟨k,hk,rfl,rfl,hbw⟩:=hrel
   have hle:=depths_le (ts.take k)
   have hle3:=sizes_take_le ts k
   by_cases hlt:k<ts.length
   ·obtain⟨b,o,k1,n1,p1,us,B,c1,rfl,hb,ht,c0',c1',c2',c3',hcu,hB,hT⟩:=(HA.out.below hbw).at_ hlt
    have hst:=depths_take ts k hlt
    have hmem:=Lfc.Raw.sizes_mem ts ts[k] (List.getElem_mem _)
    have hdz:=Lfc.Raw.depth_le_size _ ts[k] (Nat.le_refl _)
    have HS:=Lib.hid hst
    clear hB ht
    have b1:Below wr.heap.size wr (wr.alloc (.cells #[.int .i64 k1,S n1,.int .i64 p1,.slice B us.length c1] 46)):=(Below.refl _ _).alloc (Nat.le_refl _) _
    have hT2:=hT.below b1
    generalize hZ:ts[k].depth=z at *
    generalize hY:Lfc.Raw.depths (ts.take k)=y at *
    have HZ:=Lib.hid hZ
    clear hZ hst hY
    go_wp2_with fail
    refine(IH.out ts[k] _ _ (by omega) (by omega) hT2).mono ?_
    rintro e w1⟨rfl,hb1⟩
    rw[HZ.out]
    go_wp2_with fail
    go_roundw
    case rel=>exact⟨k+1,by omega,by go_num,by rw[HS.out];congr 1;omega,hbw.trans ((b1.mono hbw.size).trans (hb1.mono (Nat.le_trans hbw.size b1.size)))⟩
    case measure=>simp[intOf];omega
   ·have hkl:k=ts.length:=by omega
    have hd:=depths_le ts
    go_wp2_with fail
    go_ret
    exact⟨ret_int (by omega),hbw⟩
set_option maxRecDepth 100000 in
set_option maxHeartbeats 1000000 in
theorem rSize_any(m:Nat):∀(t:Lfc.Raw)(v:Value)(w:World),t.size≤m→t.size≤1000000000→TreeV w t v →
  Calls Tryz.prog 68 #[v] w fun e w'=>e=.returned (.int .i64 (t.size:Int))∧Below w.heap.size w w':=by
 induction m with
 |zero=>intro t v w h _ _;have:=t.size_pos;omega
 | succ m ih =>
  intro t v w hm hmax hv
  obtain⟨kd,nm,ps,ts⟩:=t
  obtain⟨A,c,rfl,hc,hA⟩:=hv.open_
  simp only[Lfc.Raw.size] at hm hmax
  simp only[Lfc.Raw.size]
  have hlen:=Lfc.Raw.sizes_len ts
  have IH:=Lib.hid ih
  obtain⟨w0,hw0⟩:∃w0,w.alloc (.cells #[.int .i64 kd,S nm,.int .i64 ps,.slice A ts.length c] 46)=w0:=⟨_,rfl⟩
  have b0:Below w.heap.size w w0:=by rw[←hw0];exact(Below.refl _ _).alloc (Nat.le_refl _) _
  have s0:w.heap.size<w0.heap.size:=by rw[←hw0];simp
  have hbox:w0.cell? ⟨w.heap.size,3,none⟩=some (.slice A ts.length c):=by rw[←hw0];simp[World.cell?_alloc_new]
  have HA:=Lib.hid (hA.below b0)
  have HB:=Lib.hid hbox
  clear ih hA hv hbox
  go_enter Tryz.func68,Tryz.ntmps68
  go_wp2_with fail
  generalize hG:w.heap.size=G at *
  go_loopw [3,4] (fun n i wr=>∃k:Nat,k≤ts.length∧i=.int .i64 k∧n=.int .i64 ((Lfc.Raw.sizes (ts.take k)+1:Nat):Int)∧Below w0.heap.size w0 wr) (fun _ i _=>ts.length-(intOf i).toNat)
  case atStart=>exact⟨0,by omega,rfl,by simp[Lfc.Raw.sizes],by first | exact Below.refl _ _ | (rw[hw0];exact Below.refl _ _)⟩
  case round =>
   have HGG:=Lib.hid hG
   clear hw0 hG
   obtain⟨k,hk,rfl,rfl,hbw⟩:=hrel
   have hbx:wr.cell? ⟨G,3,none⟩=some (.slice A ts.length c):=(hbw.cell (p:=⟨G,3,none⟩) s0).trans HB.out
   have hle3:=sizes_take_le ts k
   by_cases hlt:k<ts.length
   ·obtain⟨b,o,k1,n1,p1,us,B,c1,rfl,hb,ht,c0',c1',c2',c3',hcu,hB,hT⟩:=(HA.out.below hbw).at_ hlt
    have hst:=sizes_take ts k hlt
    have hle2:=sizes_take_le ts (k+1)
    have hmem:=Lfc.Raw.sizes_mem ts ts[k] (List.getElem_mem _)
    have HS:=Lib.hid hst
    clear hB ht
    generalize hZ:ts[k].size=z at *
    generalize hY:Lfc.Raw.sizes (ts.take k)=y at *
    have HZ:=Lib.hid hZ
    clear hZ hst hY
    go_wp2_with fail
    refine(IH.out ts[k] _ _ (by rw[HZ.out];omega) (by rw[HZ.out];omega) hT).mono ?_
    rintro e w1⟨rfl,hb1⟩
    rw[HZ.out]
    have hyz:y+z≤Lfc.Raw.sizes ts:=by have:=HS.out;omega
    go_wp2_with fail
    go_roundw
    case rel=>exact⟨k+1,by omega,by go_num,by rw[HS.out];go_num,hbw.trans (hb1.mono hbw.size)⟩
    case measure=>simp[intOf];omega
   ·have hkl:k=ts.length:=by omega
    go_wp2_with fail
    go_ret
    exact⟨ret_int (by rw[hkl,List.take_length]),by rw[HGG.out];exact b0.trans (hbw.mono (Nat.le_of_lt s0))⟩
set_option maxRecDepth 100000 in
set_option maxHeartbeats 1000000 in
theorem rDepth_any(m:Nat):∀(t:Lfc.Raw)(v:Value)(w:World),t.size≤m→t.size≤1000000000→TreeV w t v →
  Calls Tryz.prog 69 #[v] w fun e w'=>e=.returned (.int .i64 (t.depth:Int))∧Below w.heap.size w w':=by
 induction m with
 |zero=>intro t v w h _ _;have:=t.size_pos;omega
 | succ m ih =>
  intro t v w hm hmax hv
  obtain⟨kd,nm,ps,ts⟩:=t
  obtain⟨A,c,rfl,hc,hA⟩:=hv.open_
  simp only[Lfc.Raw.size] at hm hmax
  simp only[Lfc.Raw.depth]
  have hlen:=Lfc.Raw.sizes_len ts
  have IH:=Lib.hid ih
  obtain⟨w0,hw0⟩:∃w0,w.alloc (.cells #[.int .i64 kd,S nm,.int .i64 ps,.slice A ts.length c] 46)=w0:=⟨_,rfl⟩
  have b0:Below w.heap.size w w0:=by rw[←hw0];exact(Below.refl _ _).alloc (Nat.le_refl _) _
  have s0:w.heap.size<w0.heap.size:=by rw[←hw0];simp
  have hbox:w0.cell? ⟨w.heap.size,3,none⟩=some (.slice A ts.length c):=by rw[←hw0];simp[World.cell?_alloc_new]
  have HA:=Lib.hid (hA.below b0)
  have HB:=Lib.hid hbox
  clear ih hA hv hbox
  go_enter Tryz.func69,Tryz.ntmps69
  go_wp2_with fail
  generalize hG:w.heap.size=G at *
  go_loopw [3,4] (fun n i wr=>∃k:Nat,k≤ts.length∧i=.int .i64 k∧n=.int .i64 ((Lfc.Raw.depths (ts.take k):Nat):Int)∧Below w0.heap.size w0 wr) (fun _ i _=>ts.length-(intOf i).toNat)
  case atStart=>exact⟨0,by omega,rfl,by simp[Lfc.Raw.depths],by first | exact Below.refl _ _ | (rw[hw0];exact Below.refl _ _)⟩
  case round =>
   have HGG:=Lib.hid hG
   clear hw0 hG
   obtain⟨k,hk,rfl,rfl,hbw⟩:=hrel
   have hbx:wr.cell? ⟨G,3,none⟩=some (.slice A ts.length c):=(hbw.cell (p:=⟨G,3,none⟩) s0).trans HB.out
   have hle3:=sizes_take_le ts k
   have hle:=depths_le (ts.take k)
   by_cases hlt:k<ts.length
   ·obtain⟨b,o,k1,n1,p1,us,B,c1,rfl,hb,ht,c0',c1',c2',c3',hcu,hB,hT⟩:=(HA.out.below hbw).at_ hlt
    have hst:=depths_take ts k hlt
    have hle2:=sizes_take_le ts (k+1)
    have hmem:=Lfc.Raw.sizes_mem ts ts[k] (List.getElem_mem _)
    have hdz:=Lfc.Raw.depth_le_size _ ts[k] (Nat.le_refl _)
    have HS:=Lib.hid hst
    clear hB ht
    generalize hZ:ts[k].depth=z at *
    generalize hY:Lfc.Raw.depths (ts.take k)=y at *
    have HZ:=Lib.hid hZ
    clear hZ hst hY
    go_wp2_with fail
    refine(IH.out ts[k] _ _ (by omega) (by omega) hT).mono ?_
    rintro e w1⟨rfl,hb1⟩
    rw[HZ.out]
    go_wp2_with fail
    go_roundw
    case rel=>exact⟨k+1,by omega,by go_num,by rw[HS.out];congr 1;omega,hbw.trans (hb1.mono hbw.size)⟩
    case measure=>simp[intOf];omega
   ·have hkl:k=ts.length:=by omega
    have hd:=depths_le ts
    go_wp2_with fail
    go_ret
    exact⟨ret_int (by omega),by rw[HGG.out];exact b0.trans (hbw.mono (Nat.le_of_lt s0))⟩
end Go.Proofs.YthajalgkjonaaaaGreatDoor
namespace Go.Proofs.YthajalgkjonaaaaGreatDoor
open Go.RowKit
theorem sames_spec(at_:Bool):∀(ts us:List Lfc.Raw),Lfc.Raw.sames at_ ts us=true↔ts.length=us.length∧∀k(h:k<ts.length)(h':k<us.length),Lfc.Raw.same at_ ts[k] us[k]=true
 |[],[]=>by simp[Lfc.Raw.sames]
 |[],_ :: _=>by simp[Lfc.Raw.sames]
 |_ :: _,[]=>by simp[Lfc.Raw.sames]
 | a :: r, b :: q => by
  rw[Lfc.Raw.sames,Bool.and_eq_true,sames_spec at_ r q]
  constructor
  ·rintro⟨h1,h2,h3⟩
   refine⟨by simp[h2],fun k h h'=>?_⟩
   cases k with
   |zero=>exact h1
   |succ k=>exact h3 k (by simpa using h) (by simpa using h')
  ·rintro⟨h1,h2⟩
   exact⟨h2 0 (by simp) (by simp),by simpa using h1,fun k h h'=>h2 (k+1) (by simpa using h) (by simpa using h')⟩
theorem sames_false(at_:Bool)(ts us:List Lfc.Raw)(k:Nat)(h:k<ts.length)(h':k<us.length)(hf:Lfc.Raw.same at_ ts[k] us[k]=false):Lfc.Raw.sames at_ ts us=false:=by
 cases hs:Lfc.Raw.sames at_ ts us
 ·rfl
 ·rw[((sames_spec at_ ts us).1 hs).2 k h h'] at hf;cases hf
theorem sames_len(at_:Bool)(ts us:List Lfc.Raw)(h:ts.length≠us.length):Lfc.Raw.sames at_ ts us=false:=by
 cases hs:Lfc.Raw.sames at_ ts us
 ·rfl
 ·exact absurd ((sames_spec at_ ts us).1 hs).1 h
end Go.Proofs.YthajalgkjonaaaaGreatDoor
