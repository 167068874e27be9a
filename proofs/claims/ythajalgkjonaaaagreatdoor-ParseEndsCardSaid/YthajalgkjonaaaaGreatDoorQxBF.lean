/- Parts of the proof that no input makes the law false: PaEnP,PaEnQ,PaEnR,PaEnC,PaEnL,PaEnW,PaDoorE,RowParseEnds. -/
import Derived.Test.YthajalgkjonaaaaGreatDoorQxAB
import Derived.Test.YthajalgkjonaaaaGreatDoorQxAE
import Derived.Test.YthajalgkjonaaaaGreatDoorQxAJ
import Derived.Test.YthajalgkjonaaaaGreatDoorQxAV
import Derived.Test.YthajalgkjonaaaaGreatDoorQxBD
set_option linter.unusedVariables false
set_option linter.unusedSimpArgs false
namespace Lfc
theorem runLen_takeK(p:UInt8→Bool):∀(l:List UInt8)(k:Nat),runLen p l≤k→runLen p (l.take k)=runLen p l
 |[],k,_=>by simp
 |c :: r,0,h=>by
  have:runLen p (c :: r)=0:=by omega
  rw[this];rfl
 | c :: r, k + 1, h => by
  rw[List.take_succ_cons]
  unfold runLen at h ⊢
  split
  ·rename_i hc
   rw[if_pos hc] at h
   rw[runLen_takeK p r k (by omega)]
  ·rfl
theorem nx_take(c:UInt8)(r:List UInt8)(m:Nat)(he:(nx (c :: r)).err=0)(hk:(nx (c :: r)).kind≠0∨blankB c=true)(hm:(nx (c :: r)).len≤m+1):nx (c :: r.take m)=nx (c :: r):=by
 simp only[nx] at he hk hm ⊢
 split
 ·rfl
 ·rename_i hb
  rw[if_neg hb] at he hk hm
  have hk:=hk.resolve_right hb
  split
  ·rename_i h37
   rw[if_pos h37] at he hk hm
   match r with
   |[]=>simp[pc] at hk
   | d :: r' =>
    simp only[pc] at he hk hm
    split at hk
    ·rename_i hd
     cases hc:cmt 1 r' with
     |none=>rw[hc] at hk;simp at hk
     |some t=>rw[hc] at hk;simp at hk
    ·rename_i hd
     rw[if_neg hd] at he hm
     split at hk
     ·simp at hk
     ·rename_i h0
      rw[if_neg h0] at he hm
      split at he
      ·simp at he
      ·rename_i h64
       rw[if_neg h64] at hm
       simp only at hm
       obtain⟨m',rfl⟩:∃m',m=m'+1:=⟨m-1,by omega⟩
       have e1:=runLen_takeK letterB (d :: r') (m'+1) (by omega)
       rw[List.take_succ_cons] at e1 ⊢
       simp only[pc]
       rw[if_neg hd,if_neg hd,e1,if_neg h0,if_neg h0,if_neg h64,if_neg h64]
       have e2:(d :: r'.take m').take (runLen letterB (d :: r'))=(d :: r').take (runLen letterB (d :: r')):=by
        rw[←List.take_succ_cons,List.take_take,Nat.min_eq_left (by omega)]
       rw[e2]
  ·rename_i h37
   rw[if_neg h37] at he hk hm
   split
   ·rename_i hn
    rw[if_pos hn] at he hm
    have hl:runLen nameB (c :: r)≤m+1:=by
     unfold nm at he hm
     split at he
     ·simp at he
     ·rename_i h64
      rw[if_neg h64] at hm
      simp only[List.length_take] at hm
      have:=runLen_le nameB (c :: r)
      omega
    have e1:=runLen_takeK nameB (c :: r) (m+1) hl
    rw[List.take_succ_cons] at e1
    rw[e1]
    congr 1
    rw[←List.take_succ_cons,List.take_take,Nat.min_eq_left hl]
   ·rfl
def plainF:Nat→List UInt8→Bool
 |0,l=>l.isEmpty
 |_+1,[]=>true
 |f+1,c :: r=>decide ((nx (c :: r)).err=0) && (decide ((nx (c :: r)).kind≠0) || blankB c) && plainF f ((c :: r).drop (nx (c :: r)).len)
theorem sc_take:∀(f:Nat)(l:List UInt8)(n:Nat),plainF f l=true→(sc n l).2.1=0∧∀j t,(sc n l).1[j]?=some t→n≤t.pos∧t.pos<n+l.length∧sc n (l.take (t.pos-n))=((sc n l).1.take j,0,t.pos)
 |0,[],n,_=>⟨rfl,fun j t h=>by simp[sc_nil] at h⟩
 |0,_ :: _,_,h=>by simp[plainF] at h
 |_+1,[],n,_=>⟨rfl,fun j t h=>by simp[sc_nil] at h⟩
 | f + 1, c :: r, n, h => by
  simp only[plainF,Bool.and_eq_true,Bool.or_eq_true,decide_eq_true_eq] at h
  obtain⟨⟨he,hk⟩,hp⟩:=h
  obtain⟨i1,i2⟩:=sc_take f _ (n+(nx (c :: r)).len) hp
  have hlen:=nx_len c r he
  have hd:((c :: r).drop (nx (c :: r)).len).length=r.length+1-(nx (c :: r)).len:=by rw[List.length_drop,List.length_cons]
  have h0:(sc n (c :: r)).2.1=0:=by rw[sc_ok _ _ _ he,put_snd];exact i1
  have hf:(sc n (c :: r)).1=(if (nx (c :: r)).kind=0 then [] else [⟨(nx (c :: r)).kind,(nx (c :: r)).text,n⟩])++(sc (n+(nx (c :: r)).len) ((c :: r).drop (nx (c :: r)).len)).1:=by rw[sc_ok _ _ _ he,put_fst _ _ _ i1]
  have key:∀j t,(sc (n+(nx (c :: r)).len) ((c :: r).drop (nx (c :: r)).len)).1[j]?=some t→n≤t.pos∧t.pos<n+(c :: r).length∧sc n ((c :: r).take (t.pos-n))=((if (nx (c :: r)).kind=0 then [] else [⟨(nx (c :: r)).kind,(nx (c :: r)).text,n⟩])++(sc (n+(nx (c :: r)).len) ((c :: r).drop (nx (c :: r)).len)).1.take j,0,t.pos):=fun j t ht=>by
   obtain⟨b1,b2,b3⟩:=i2 j t ht
   rw[hd] at b2
   refine⟨by omega,by rw[List.length_cons];omega,?_⟩
   obtain⟨m,hm⟩:∃m,t.pos-n=m+1:=⟨t.pos-n-1,by omega⟩
   have hx:=nx_take c r m he hk (by omega)
   have hdr:(c :: r.take m).drop (nx (c :: r)).len=((c :: r).drop (nx (c :: r)).len).take (t.pos-(n+(nx (c :: r)).len)):=by
    rw[←List.take_succ_cons,←hm,List.drop_take]
    congr 1
    omega
   rw[hm,List.take_succ_cons,sc_ok _ _ _ (by rw[hx];exact he),hx,hdr,b3]
   refine Prod.ext ?_ (put_snd _ _ _)
   rw[put_fst _ _ _ rfl]
  refine⟨h0,fun j t ht=>?_⟩
  rw[hf] at ht ⊢
  by_cases h00:(nx (c :: r)).kind=0
  ·rw[if_pos h00] at ht ⊢
   have:=key j t ht
   rw[if_pos h00] at this
   exact this
  ·rw[if_neg h00] at ht ⊢
   match j with
   |0 =>
    simp at ht
    subst ht
    simp only[Nat.sub_self,List.take_zero]
    exact⟨Nat.le_refl _,by rw[List.length_cons];omega,rfl⟩
   |j+1 =>
    have:=key j t (by simpa using ht)
    rw[if_neg h00] at this
    simpa using this
end Lfc
namespace Lfc
def PosR(a:Nat)(r:ItR):Prop:=∀x k,r=.ok x k→x.1.pos=a
theorem PosR.then{α:Type}{a:Nat}{r:PR α}{f:α→Nat→ItR}(h:∀x k,PosR a (f x k)):PosR a (r.then f):=fun y k' e=>by
 obtain⟨x,k1,_,e2⟩:=PR.then_ok e
 exact h x k1 y k' e2
theorem PosR.ite{a:Nat}{c:Prop}[Decidable c]{r s:ItR}(h1:PosR a r)(h2:PosR a s):PosR a (if c then r else s):=by split <;> assumption
theorem PosR.ok{a:Nat}{x:Itm × List Op}{k:Nat}(h:x.1.pos=a):PosR a (.ok x k):=fun y k' e=>by cases e;exact h
theorem PosR.err{a:Nat}(c:Int)(b:Nat):PosR a (.err c b):=fun _ _ e=>nomatch e
theorem pos_op(p:PE)(it:Itm)(fix:Int)(k:Nat):PosR it.pos (p.opP it fix k):=PosR.then fun _ _=>PosR.then fun _ _=>PosR.then fun _ _=>PosR.ite (PosR.err _ _) (PosR.ok rfl)
theorem pos_dir(p:PE)(i:Int)(it:Itm)(k:Nat):PosR it.pos (p.dirP i it k):=by
 unfold PE.dirP
 split
 ·exact PosR.then fun i k1=>pos_op p it _ k1
 ·exact pos_op p it 1 k
 ·exact pos_op p it 2 k
 ·exact PosR.then fun _ _=>PosR.then fun _ _=>PosR.then fun _ _=>PosR.then fun _ _=>PosR.then fun _ _=>PosR.then fun _ _=>PosR.ok rfl
 ·exact PosR.then fun _ _=>PosR.then fun _ _=>PosR.then fun _ _=>PosR.then fun _ _=>PosR.then fun _ _=>PosR.then fun _ _=>PosR.ok rfl
 ·exact PosR.then fun _ _=>PosR.then fun _ _=>PosR.ok rfl
 ·exact PosR.then fun _ _=>PosR.then fun _ _=>PosR.ok rfl
 ·exact PosR.then fun _ _=>PosR.then fun _ _=>PosR.ok rfl
 ·exact PosR.then fun _ _=>PosR.then fun _ _=>PosR.ok rfl
 ·exact PosR.then fun _ _=>PosR.then fun _ _=>PosR.ok rfl
 ·exact PosR.then fun _ _=>PosR.then fun _ _=>PosR.ok rfl
 ·exact PosR.then fun _ _=>PosR.then fun _ _=>PosR.then fun _ _=>PosR.then fun _ _=>PosR.then fun _ _=>PosR.ok rfl
 ·exact PosR.then fun _ _=>PosR.then fun _ _=>PosR.then fun _ _=>PosR.ok rfl
theorem pos_item(p:PE)(n k:Nat):PosR (p.pk k).pos (p.itemP n k):=by
 unfold PE.itemP
 refine PosR.ite (PosR.err _ _) (PosR.ite (PosR.ite (PosR.err _ _) (pos_dir p _ (Itm.new (p.pk k).pos) _)) (PosR.ite ?_ fun _ _ e=>(PE.unexp_ok e).elim))
 unfold PE.declP
 exact PosR.then fun _ _=>PosR.ite (PosR.then fun _ _=>PosR.ite (PosR.then fun _ _=>PosR.then fun _ _=>PosR.then fun _ _=>PosR.ok rfl) (PosR.then fun _ _=>PosR.ok rfl)) (PosR.then fun _ _=>PosR.then fun _ _=>PosR.then fun _ _=>PosR.ok rfl)
theorem front_pos(T U:List Tok)(n m:Nat):∀(f k:Nat)(l:List Op)(acc acc':List Itm)(x:List Itm × List Op)(k' g:Nat),itemsF T n f k l acc=.ok x k'→k≤T.length→acc.map (·.pos)=acc'.map (·.pos)→T.length+U.length<g+k →
  ∃g' acc2,U.length<g'∧x.1.map (·.pos)=acc2.map (·.pos)∧itemsF (T++U) m g k l acc'=itemsF (T++U) m g' T.length x.2 acc2
 |0,_,_,_,_,_,_,_,h,_,_,_=>nomatch h
 | f + 1, k, l, acc, acc', x, k', g, h, hk, ha, hg => by
  rw[itemsF] at h
  have hlen:acc.length=acc'.length:=by have:=congrArg List.length ha;simpa using this
  by_cases hlt:k<T.length
  ·rw[if_pos hlt] at h
   obtain⟨y,k1,e1,e2⟩:=PR.then_ok h
   obtain⟨c1,c2,_⟩:=item_count e1 hk
   have hne:=item_lt e1
   obtain⟨_,hS⟩:=(sim_item (rel_front T U n m l) acc.length acc'.length k hne (by rw[←hlen];exact hne)).1 y k1 e1
   obtain⟨z,e3,hz1,hz2⟩:=hS (show k1-1<T.length by omega)
   have e3':PE.itemP ⟨T++U,m,l⟩ acc'.length k=.ok z k1:=e3
   have hp:y.1.pos=z.1.pos:=by
    rw[pos_item _ _ _ y k1 e1,pos_item _ _ _ z k1 e3']
    simp[PE.pk,List.getD_eq_getElem?_getD,List.getElem?_append_left hlt,List.getElem?_eq_getElem hlt]
   obtain⟨g0,rfl⟩:∃g0,g=g0+1:=⟨g-1,by omega⟩
   obtain⟨g',acc2,h1,h2,h3⟩:=front_pos T U n m f k1 y.2 (acc++[y.1]) (acc'++[z.1]) x k' g0 e2 c2 (by rw[List.map_append,List.map_append,ha,List.map_cons,List.map_cons,hp]) (by omega)
   refine⟨g',acc2,h1,h2,?_⟩
   rw[←h3,itemsF,if_pos (by simp;omega),e3']
   show itemsF (T++U) m g0 k1 z.2 (acc'++[z.1])=_
   rw[hz2]
  ·rw[if_neg hlt] at h
   cases h
   obtain rfl:k=T.length:=by omega
   exact⟨g,acc',by omega,ha,rfl⟩
theorem back_pos(T B:List Tok)(n D:Nat):∀(f g k:Nat)(l:List Op)(acc acc':List Itm),f≤g→k≤B.length→acc.length≤acc'.length→acc'.length+(B.drop k).countP dotB<512 →
  ∀x k',itemsF B n f k l acc=.ok x k'→∃b c,x.1=acc++b∧c.map (·.pos)=b.map (fun i=>i.pos+D)∧itemsF (T++B.map (Tok.up D)) (n+D) g (k+T.length) l acc'=.ok (acc'++c,x.2) (k'+T.length)
 |0,_,_,_,_,_,_,_,_,_=>fun _ _ h=>nomatch h
 |f+1,0,_,_,_,_,h,_,_,_=>absurd h (by omega)
 | f + 1, g + 1, k, l, acc, acc', hf, hk, ha, hc => by
  rw[itemsF,itemsF]
  by_cases hlt:k<B.length
  ·rw[if_pos hlt,if_pos (by simp;omega)]
   intro x k' h
   obtain⟨y,k1,hr,h⟩:=PR.then_ok h
   obtain⟨c1,c2,c3⟩:=item_count hr hk
   obtain⟨z,e3,hz1,hz2⟩:=((sim_item (rel_back T B n D l) acc.length acc'.length k (by omega) (by omega)).1 y k1 hr).2 trivial
   have hp:z.1.pos=y.1.pos+D:=by
    rw[pos_item _ _ _ y k1 hr,pos_item _ _ _ z _ e3,pk_back]
   rw[e3]
   obtain⟨b,c,hb,hbc,e4⟩:=back_pos T B n D f g k1 y.2 (acc++[y.1]) (acc'++[z.1]) (by omega) c2 (by simp;omega) (by simp;omega) x k' h
   refine⟨y.1 :: b,z.1 :: c,by rw[hb];simp,by rw[List.map_cons,List.map_cons,hp,hbc],?_⟩
   show itemsF _ _ g (k1+T.length) z.2 (acc'++[z.1])=_
   rw[←hz2,e4]
   simp
  ·rw[if_neg hlt,if_neg (by simp;omega)]
   intro x k' h
   cases h
   exact⟨[],[],by simp,rfl,by simp⟩
theorem split_pos(T B:List Tok)(n D n0:Nat)(hc:T.countP dotB+B.countP dotB<512){l0:List Op}{a:List Itm}{ops:List Op}{k0:Nat}(h:itemsP T n0 l0=.ok (a,ops) k0){b:List Itm}{more:List Op}{k:Nat}(h2:itemsP B n ops=.ok (b,more) k) :
  ∃c k2,itemsP (T++B.map (Tok.up D)) (n+D) l0=.ok (c,more) k2∧c.map (·.pos)=a.map (·.pos)++b.map (fun i=>i.pos+D):=by
 unfold itemsP at h h2 ⊢
 have hd:=items_dots T n0 _ _ _ _ _ _ h (Nat.zero_le _)
 rw[List.drop_zero] at hd
 obtain⟨g,a',hg,ha,hq⟩:=front_pos T (B.map (Tok.up D)) n0 (n+D) _ 0 l0 [] [] _ _ ((T++B.map (Tok.up D)).length+1) h (Nat.zero_le _) rfl (by simp)
 have hl:a.length=a'.length:=by have:=congrArg List.length ha;simpa using this
 rw[List.length_map] at hg
 have hd:a.length≤T.countP dotB:=by simpa using hd
 obtain⟨b',c,hb,hbc,e4⟩:=back_pos T B n D (B.length+1) g 0 ops [] a' (by omega) (Nat.zero_le _) (by simp) (by rw[List.drop_zero];omega) _ _ h2
 have hb:b=b':=by simpa using hb
 subst hb
 rw[Nat.zero_add] at e4
 refine⟨a'++c,_,hq.trans e4,?_⟩
 rw[List.map_append,hbc,show a.map (·.pos)=a'.map (·.pos) from ha]
theorem split_err(T B:List Tok)(n D n0:Nat)(hc:T.countP dotB+B.countP dotB<512){l0:List Op}{a:List Itm}{ops:List Op}{k0:Nat}(h:itemsP T n0 l0=.ok (a,ops) k0){c:Int}{e:Nat}(h2:itemsP B n ops=.err c e) :
  itemsP (T++B.map (Tok.up D)) (n+D) l0=.err c (e+D):=by
 unfold itemsP at h h2 ⊢
 have hd:=items_dots T n0 _ _ _ _ _ _ h (Nat.zero_le _)
 rw[List.drop_zero] at hd
 obtain⟨g,a',hg,ha,hq⟩:=front_pos T (B.map (Tok.up D)) n0 (n+D) _ 0 l0 [] [] _ _ ((T++B.map (Tok.up D)).length+1) h (Nat.zero_le _) rfl (by simp)
 have hl:a.length=a'.length:=by have:=congrArg List.length ha;simpa using this
 rw[List.length_map] at hg
 have hd:a.length≤T.countP dotB:=by simpa using hd
 obtain⟨_,i2⟩:=items_back T B n D (B.length+1) g 0 ops [] a' (by omega) (Nat.zero_le _) (by simp) (by rw[List.drop_zero];omega)
 rw[Nat.zero_add] at i2
 exact hq.trans (i2 c e h2)
end Lfc
namespace Lfc
def CutA(r:PR (List Itm × List Op))(P:List Nat)(p:Nat):Prop :=
 (p∈P∧∃a o k,r=.ok (a,o) k∧a.length=P.countP (fun x=>decide (x<p)))∨(p ∉ P∧∃c e,r=.err c e∧((c=24∧e=p)∨(c=21∧e<p)))
structure EndsT(T:List Tok)(l q:List Op)(P:List Nat):Prop where
 all:∃n a k,itemsP T n l=.ok (a,q) k∧a.map (·.pos)=P
 cut:∀j(h:j<T.length),CutA (itemsP (T.take j) T[j].pos l) P T[j].pos
 inn:∀p∈P,∃t∈T,t.pos=p
theorem up_zero(B:List Tok):B.map (Tok.up 0)=B:=by
 have:Tok.up 0=id:=by funext t;rfl
 rw[this,List.map_id]
theorem countP_zero{P:List Nat}{p:Nat}(h:∀x∈P,p<x):P.countP (fun x=>decide (x<p))=0:=by
 rw[List.countP_eq_zero]
 intro x hx
 have:=h x hx
 simp;omega
theorem countP_all{P:List Nat}{p:Nat}(h:∀x∈P,x<p):P.countP (fun x=>decide (x<p))=P.length:=by
 rw[List.countP_eq_length]
 intro x hx
 simpa using h x hx
theorem EndsT.app{T B:List Tok}{l q r:List Op}{P R:List Nat}(hT:EndsT T l q P)(hB:EndsT B q r R)(hlt:∀t∈T,∀u∈B,t.pos<u.pos)(hc:T.countP dotB+B.countP dotB<512):EndsT (T++B) l r (P++R):=by
 obtain⟨n0,a,k0,h1,h2⟩:=hT.all
 have hPl:P.length=a.length:=by rw[←h2];simp
 refine⟨?_,fun j hj=>?_,fun p hp=>?_⟩
 ·obtain⟨n,b,k,h3,h4⟩:=hB.all
  obtain⟨c,k2,h5,h6⟩:=split_pos T B n 0 n0 hc h1 h3
  rw[up_zero] at h5
  exact⟨_,c,k2,h5,by rw[h6,h2,←h4];rfl⟩
 ·by_cases hjT:j<T.length
  ·have e1:(T++B)[j]=T[j]:=List.getElem_append_left hjT
   have e2:(T++B).take j=T.take j:=List.take_append_of_le_length (by omega)
   have hR:∀x∈R,T[j].pos<x:=fun x hx=>by
    obtain⟨u,hu,rfl⟩:=hB.inn x hx
    exact hlt _ (List.getElem_mem _) u hu
   rw[e1,e2]
   rcases hT.cut j hjT with⟨m,a',o,k,g1,g2⟩ | ⟨m,g⟩
   ·exact .inl ⟨List.mem_append_left _ m,a',o,k,g1,by rw[List.countP_append,countP_zero hR];exact g2⟩
   ·refine .inr ⟨fun h=>?_,g⟩
    rcases List.mem_append.1 h with h | h
    ·exact m h
    ·have:=hR _ h;omega
  ·obtain⟨i,rfl⟩:∃i,j=T.length+i:=⟨j-T.length,by omega⟩
   have hi:i<B.length:=by rw[List.length_append] at hj;omega
   have e1:(T++B)[T.length+i]=B[i]:=by rw[List.getElem_append_right (by omega)];simp
   have e2:(T++B).take (T.length+i)=T++B.take i:=by rw[List.take_append,List.take_of_length_le (by omega)];simp
   have hP:∀x∈P,x<B[i].pos:=fun x hx=>by
    obtain⟨u,hu,rfl⟩:=hT.inn x hx
    exact hlt u hu _ (List.getElem_mem _)
   have hc':T.countP dotB+(B.take i).countP dotB<512:=by
    have:=(List.take_sublist i B).countP_le (p:=dotB)
    omega
   rw[e1,e2]
   rcases hB.cut i hi with⟨m,b,o,k,g1,g2⟩ | ⟨m,c,e,g1,g2⟩
   ·obtain⟨c,k2,h5,h6⟩:=split_pos T (B.take i) B[i].pos 0 n0 hc' h1 g1
    rw[up_zero] at h5
    refine .inl ⟨List.mem_append_right _ m,c,o,k2,h5,?_⟩
    have:=congrArg List.length h6
    rw[List.countP_append,countP_all hP]
    simp at this
    omega
   ·have h5:=split_err T (B.take i) B[i].pos 0 n0 hc' h1 g1
    rw[up_zero] at h5
    refine .inr ⟨fun h=>?_,c,e,h5,g2⟩
    rcases List.mem_append.1 h with h | h
    ·have:=hP _ h;omega
    ·exact m h
 ·rcases List.mem_append.1 hp with h | h
  ·obtain⟨t,ht,e⟩:=hT.inn p h;exact⟨t,List.mem_append_left _ ht,e⟩
  ·obtain⟨t,ht,e⟩:=hB.inn p h;exact⟨t,List.mem_append_right _ ht,e⟩
theorem items_nil(n:Nat)(l:List Op):itemsP [] n l=.ok ([],l) 0:=rfl
theorem EndsT.up{B:List Tok}{l q:List Op}{P:List Nat}(h:EndsT B l q P)(D:Nat)(hc:B.countP dotB<512):EndsT (B.map (Tok.up D)) l q (P.map (·+D)):=by
 refine⟨?_,fun j hj=>?_,fun p hp=>?_⟩
 ·obtain⟨n,b,k,h3,h4⟩:=h.all
  obtain⟨c,k2,h5,h6⟩:=split_pos [] B n D 0 (by simpa using hc) (items_nil 0 l) h3
  exact⟨_,c,k2,h5,by rw[h6,←h4];simp⟩
 ·have hi:j<B.length:=by simpa using hj
  have hc':([]:List Tok).countP dotB+(B.take j).countP dotB<512:=by
   have:=(List.take_sublist j B).countP_le (p:=dotB)
   simp;omega
  have e1:(B.map (Tok.up D))[j]=Tok.up D B[j]:=by simp
  have e2:(B.map (Tok.up D)).take j=[]++(B.take j).map (Tok.up D):=by rw[List.map_take];rfl
  have hm:∀x:Nat,x+D∈P.map (·+D)↔x∈P:=fun x=>by
   rw[List.mem_map]
   exact⟨fun⟨y,hy,e⟩=>by
      have:y=x:=by omega
      subst this
      exact hy,fun hx=>⟨x,hx,rfl⟩⟩
  have hcnt:∀x:Nat,(P.map (·+D)).countP (fun p=>decide (p<x+D))=P.countP (fun p=>decide (p<x)):=fun x=>by
   rw[List.countP_map]
   congr 1
   funext y
   simp
  rw[e1,e2]
  show CutA (itemsP ([]++(B.take j).map (Tok.up D)) (B[j].pos+D) l) _ (B[j].pos+D)
  rcases h.cut j hi with⟨m,b,o,k,g1,g2⟩ | ⟨m,c,e,g1,g2⟩
  ·obtain⟨c,k2,h5,h6⟩:=split_pos [] (B.take j) B[j].pos D 0 hc' (items_nil 0 l) g1
   refine .inl ⟨(hm _).2 m,c,o,k2,h5,?_⟩
   have:=congrArg List.length h6
   rw[hcnt]
   simp at this
   omega
  ·have h5:=split_err [] (B.take j) B[j].pos D 0 hc' (items_nil 0 l) g1
   exact .inr ⟨fun h=>m ((hm _).1 h),c,e+D,h5,by omega⟩
 ·obtain⟨x,hx,rfl⟩:=List.mem_map.1 hp
  obtain⟨t,ht,rfl⟩:=h.inn x hx
  exact⟨Tok.up D t,List.mem_map.2 ⟨t,ht,rfl⟩,rfl⟩
def cutOk(l:List Op)(P:List Nat)(T:List Tok)(p:Nat):Bool:=match itemsP T p l with
 |.ok x _=>P.contains p && decide (x.1.length=P.countP (fun x=>decide (x<p)))
 |.err c a=>!P.contains p && ((decide (c=24) && decide (a=p)) || (decide (c=21) && decide (a<p)))
 |.out=>false
theorem cutOk_ok{l:List Op}{P:List Nat}{T:List Tok}{p:Nat}(h:cutOk l P T p=true):CutA (itemsP T p l) P p:=by
 unfold cutOk at h
 split at h
 ·rename_i x k e
  simp only[Bool.and_eq_true,List.contains_iff_mem,decide_eq_true_eq] at h
  exact .inl ⟨h.1,x.1,x.2,k,e,h.2⟩
 ·rename_i c a e
  simp only[Bool.and_eq_true,Bool.or_eq_true,Bool.not_eq_true',decide_eq_true_eq] at h
  refine .inr ⟨fun hm=>?_,c,a,e,h.2⟩
  have:=List.contains_iff_mem.2 hm
  rw[h.1] at this
  cases this
 ·cases h
def cutsF(l:List Op)(P:List Nat)(ahead:List Tok):List Tok→Bool
 |[]=>true
 |t :: r=>cutOk l P ahead t.pos && cutsF l P (ahead++[t]) r
theorem cutsF_ok{l:List Op}{P:List Nat}:∀(r ahead:List Tok),cutsF l P ahead r=true→∀j(h:j<r.length),CutA (itemsP (ahead++r.take j) r[j].pos l) P r[j].pos
 |[],_,_,_,h=>absurd h (by simp)
 | t :: r, ahead, hc, j, h => by
  simp only[cutsF,Bool.and_eq_true] at hc
  match j with
  |0=>simpa using cutOk_ok hc.1
  |j+1 =>
   have:=cutsF_ok r (ahead++[t]) hc.2 j (by simpa using h)
   simpa using this
def chunkOk(C:List Tok)(l:List Op):Option (List Op):=match itemsP C 0 l with
 |.ok x _=>if decide (x.1.map (·.pos)=[(C.headD ⟨0,[],0⟩).pos]) && !C.isEmpty && cutsF l [(C.headD ⟨0,[],0⟩).pos] [] C then some x.2 else none
 |_=>none
theorem chunk_ends{C:List Tok}{l q:List Op}(h:chunkOk C l=some q):EndsT C l q [(C.headD ⟨0,[],0⟩).pos]:=by
 unfold chunkOk at h
 split at h
 ·rename_i x k e
  split at h
  ·rename_i hc
   simp only[Bool.and_eq_true,decide_eq_true_eq,Bool.not_eq_true'] at hc
   obtain rfl:=Option.some.inj h
   refine⟨⟨0,x.1,k,e,hc.1.1⟩,fun j hj=>?_,fun p hp=>?_⟩
   ·have:=cutsF_ok C [] hc.2 j hj
    simpa using this
   ·match C,hc.1.2 with
    |t :: r,_ =>
     simp at hp
     exact⟨t,by simp,hp.symm⟩
  ·cases h
 ·cases h
def chunksRun(l:List Op):List (List Tok)→Option (List Op × List Nat)
 |[]=>some (l,[])
 | C :: r => match chunkOk C l with
  |none=>none
  |some q=>match chunksRun q r with
   |none=>none
   |some y=>some (y.1,[(C.headD ⟨0,[],0⟩).pos]++y.2)
def ascF(b:Nat):List Tok→Bool
 |[]=>true
 |t :: r=>decide (b≤t.pos) && ascF (t.pos+1) r
theorem asc_ge:∀(T:List Tok)(b:Nat),ascF b T=true→∀t∈T,b≤t.pos
 |[],_,_,t,ht=>by cases ht
 |u :: r,b,h,t,ht=>by
  simp only[ascF,Bool.and_eq_true,decide_eq_true_eq] at h
  rcases List.mem_cons.1 ht with rfl | ht
  ·exact h.1
  ·have:=asc_ge r _ h.2 t ht;omega
theorem asc_app:∀(T U:List Tok)(b:Nat),ascF b (T++U)=true→(∀t∈T,∀u∈U,t.pos<u.pos)∧∃b',ascF b' U=true
 |[],U,b,h=>⟨fun t ht=>(nomatch ht),b,h⟩
 |t :: r,U,b,h=>by
  rw[List.cons_append] at h
  simp only[ascF,Bool.and_eq_true,decide_eq_true_eq] at h
  obtain⟨i1,i2⟩:=asc_app r U _ h.2
  refine⟨fun x hx u hu=>?_,i2⟩
  rcases List.mem_cons.1 hx with rfl | hx
  ·have:=asc_ge _ _ h.2 u (List.mem_append_right _ hu);omega
  ·exact i1 x hx u hu
theorem chunks_ends:∀(Cs:List (List Tok))(l:List Op)(y:List Op × List Nat)(b:Nat),chunksRun l Cs=some y→ascF b Cs.flatten=true→Cs.flatten.countP dotB<512→EndsT Cs.flatten l y.1 y.2
 |[],l,y,b,h,_,_=>by
  obtain rfl:=Option.some.inj h
  exact⟨⟨0,[],0,rfl,rfl⟩,fun j hj=>absurd hj (by simp),fun p hp=>by cases hp⟩
 | C :: r, l, y, b, h, ha, hc => by
  rw[chunksRun] at h
  split at h
  ·cases h
  ·rename_i q hq
   split at h
   ·cases h
   ·rename_i z hz
    obtain rfl:=Option.some.inj h
    rw[List.flatten_cons] at ha hc ⊢
    rw[List.countP_append] at hc
    obtain⟨h1,b',h2⟩:=asc_app C r.flatten b ha
    exact(chunk_ends hq).app (chunks_ends r q z b' hz h2 (by omega)) h1 hc
def chunksF(acc:List Tok):List Tok→List (List Tok)
 |[]=>if acc.isEmpty then [] else [acc]
 |t :: r=>if dotB t then(acc++[t]) :: chunksF [] r else chunksF (acc++[t]) r
theorem chunks_flat:∀(T acc:List Tok),(chunksF acc T).flatten=acc++T
 |[],acc=>by
  unfold chunksF
  cases acc <;> simp
 |t :: r,acc=>by
  unfold chunksF
  split
  ·rw[List.flatten_cons,chunks_flat r []];simp
  ·rw[chunks_flat r];simp
def endsB(y:List UInt8)(l q:List Op):Bool:=plainF y.length y && ascF 0 (sc 0 y).1 && decide ((sc 0 y).1.countP dotB<512) && (match chunksRun l (chunksF [] (sc 0 y).1) with
 |some z=>opsEq z.1 q
 |none=>false)
theorem endsB_ok{y:List UInt8}{l q:List Op}(h:endsB y l q=true):plainF y.length y=true∧∃P,EndsT (sc 0 y).1 l q P:=by
 unfold endsB at h
 simp only[Bool.and_eq_true,decide_eq_true_eq] at h
 obtain⟨⟨⟨h1,h2⟩,h3⟩,h4⟩:=h
 refine⟨h1,?_⟩
 split at h4
 ·rename_i z hz
  have hf:=chunks_flat (sc 0 y).1 []
  rw[List.nil_append] at hf
  have:=chunks_ends _ l z 0 hz (by rw[hf];exact h2) (by rw[hf];exact h3)
  rw[hf,opsEq_eq h4] at this
  exact⟨_,this⟩
 ·cases h4
end Lfc
namespace Lfc
set_option maxRecDepth 100000 in
theorem libs_ends:(List.range 5).all (fun k=>endsB (libs.getD k []++[10]) [] (libOps k false))=true:=by decide +kernel
set_option maxRecDepth 100000 in
theorem extras_ends:(List.range 5).all (fun k=>(List.range (extras k).length).all fun i =>
  if k=4∧i=3 then endsB ((extras k).getD i []++[10]) (libOps k false) (libOps k true) else endsB ((extras k).getD i []++[10]) (libOps k false) (libOps k false) && endsB ((extras k).getD i []++[10]) (libOps k true) (libOps k true))=true:=by decide +kernel
end Lfc
namespace Lfc
def LexT(s:List UInt8):Prop:=∀j t,(sc 0 s).1[j]?=some t→t.pos<s.length∧sc 0 (s.take t.pos)=((sc 0 s).1.take j,0,t.pos)
theorem lexT_plain{y:List UInt8}(h:plainF y.length y=true):LexT y:=fun j t ht=>by
 obtain⟨_,h2⟩:=sc_take y.length y 0 h
 obtain⟨_,b,c⟩:=h2 j t ht
 rw[Nat.zero_add] at b
 rw[Nat.sub_zero] at c
 exact⟨b,c⟩
theorem shift_toks(D:Nat)(y:List UInt8):(sc (0+D) y).1=(sc 0 y).1.map (Tok.up D)∧(sc (0+D) y).2=((sc 0 y).2.1,(sc 0 y).2.2+D):=by
 rw[sc_shift D y 0]
 exact⟨rfl,rfl⟩
theorem ends_more{s y:List UInt8}{l q:List Op}{P R:List Nat}(hs:Clean s)(hy:Clean y)(h1:EndsT (sc 0 s).1 [] l P)(h2:LexT s)(h3:EndsT (sc 0 y).1 l q R)(h4:LexT y)(hc:(sc 0 s).1.countP dotB+(sc 0 y).1.countP dotB<512) :
  (∃P',EndsT (sc 0 (s++y)).1 [] q P')∧LexT (s++y):=by
 obtain⟨d1,d2⟩:=hs.app hy
 have hB:(sc 0 (s++y)).1=(sc 0 s).1++(sc 0 y).1.map (Tok.up s.length):=by rw[d2,(shift_toks s.length y).1]
 have hlt:∀t∈(sc 0 s).1,∀u∈(sc 0 y).1.map (Tok.up s.length),t.pos<u.pos:=fun t ht u hu=>by
  obtain⟨i,hi,e⟩:=List.getElem_of_mem ht
  have:=(h2 i t (by rw[List.getElem?_eq_getElem hi,e])).1
  obtain⟨v,_,rfl⟩:=List.mem_map.1 hu
  show t.pos<v.pos+s.length
  omega
 have hcm:((sc 0 y).1.map (Tok.up s.length)).countP dotB=(sc 0 y).1.countP dotB:=by rw[List.countP_map];rfl
 refine⟨⟨_,by rw[hB];exact h1.app (h3.up s.length (by omega)) hlt (by rw[hcm];exact hc)⟩,fun j t ht=>?_⟩
 rw[hB] at ht ⊢
 by_cases hj:j<(sc 0 s).1.length
 ·rw[List.getElem?_append_left hj] at ht
  obtain⟨b1,b2⟩:=h2 j t ht
  refine⟨by rw[List.length_append];omega,?_⟩
  rw[List.take_append_of_le_length (by omega),List.take_append_of_le_length (by omega)]
  exact b2
 ·rw[List.getElem?_append_right (by omega),List.getElem?_map] at ht
  obtain⟨v,hv,rfl⟩:=Option.map_eq_some_iff.1 ht
  obtain⟨b1,b2⟩:=h4 _ v hv
  have hz:=(shift_toks s.length (y.take v.pos))
  rw[b2] at hz
  refine⟨by rw[List.length_append];show v.pos+s.length<_;omega,?_⟩
  have e1:(s++y).take (v.pos+s.length)=s++y.take v.pos:=by
   rw[List.take_append,List.take_of_length_le (by omega)]
   congr 2
   omega
  show sc 0 ((s++y).take (v.pos+s.length))=_
  rw[e1,hs.2 0 (y.take v.pos) (by rw[hz.2])]
  refine Prod.ext ?_ ?_
  ·show(sc 0 s).1++(sc (0+s.length) (y.take v.pos)).1=_
   rw[hz.1,List.take_append,List.take_of_length_le (l:=(sc 0 s).1) (i:=j) (by omega)]
   simp only[List.map_take]
  ·show(sc (0+s.length) (y.take v.pos)).2=_
   rw[hz.2]
   rfl
theorem madeT_ends{k n:Nat}{s:List UInt8}{u:Bool}(hk:k<5)(h:MadeT k s u n):n≤5→(∃P,EndsT (sc 0 s).1 [] (libOps k u) P)∧LexT s:=by
 induction h with
 |lib =>
  intro _
  have:=List.all_eq_true.1 libs_ends k (List.mem_range.2 hk)
  obtain⟨h1,h2⟩:=endsB_ok this
  exact⟨h2,lexT_plain h1⟩
 | @more s u n i h hi hu ih =>
  intro hn
  obtain⟨⟨P,h1⟩,h2⟩:=ih (by omega)
  obtain⟨c1,c2,c3,_⟩:=h.made hk (by omega)
  have e1:=List.all_eq_true.1 (List.all_eq_true.1 extras_ends k (List.mem_range.2 hk)) i (List.mem_range.2 hi)
  have e2:=List.all_eq_true.1 (List.all_eq_true.1 extras_lex k (List.mem_range.2 hk)) i (List.mem_range.2 hi)
  simp only[decide_eq_true_eq] at e2
  have hcl:=clean_nl _ e2
  have key:endsB ((extras k).getD i []++[10]) (libOps k u) (libOps k (u || (decide (k=4) && decide (i=3))))=true:=by
   by_cases h43:k=4∧i=3
   ·rw[if_pos h43] at e1
    obtain rfl:=hu h43.1 h43.2
    obtain⟨rfl,rfl⟩:=h43
    exact e1
   ·rw[if_neg h43,Bool.and_eq_true] at e1
    have e:(u || (decide (k=4) && decide (i=3)))=u:=by
     cases u
     ·simp only[Bool.false_or,Bool.and_eq_false_iff,decide_eq_false_iff_not]
      by_cases h:k=4
      ·exact .inr fun h'=>h43 ⟨h,h'⟩
      ·exact .inl h
     ·rfl
    rw[e]
    cases u
    ·exact e1.1
    ·exact e1.2
  obtain⟨k1,R,k2⟩:=endsB_ok key
  have hd:(sc 0 ((extras k).getD i []++[10])).1.countP dotB≤60:=by
   have e3:=List.all_eq_true.1 (List.all_eq_true.1 extras_ok k (List.mem_range.2 hk)) i (List.mem_range.2 hi)
   split at e3
   ·exact(reads_ok e3).2.1
   ·rw[Bool.and_eq_true] at e3
    exact(reads_ok e3.1).2.1
  exact ends_more c1 hcl h1 h2 k2 (lexT_plain k1) (by omega)
theorem ends_law{k n:Nat}{s:List UInt8}{u:Bool}(hk:k<5)(h:MadeT k s u n)(hn:n≤4):∃(T:List Tok)(a:List Itm)(k0:Nat),lex s=(T,0,s.length)∧T.length≤1600∧0<T.length∧s.length≤1600∧extendP [] s=.ok (a,libOps k u) k0 ∧
  ∀j(hj:j<T.length),T[j].pos<s.length∧(lex (s.take T[j].pos)).2.1=0∧CutA (extendP [] (s.take T[j].pos)) (a.map (·.pos)) T[j].pos:=by
 obtain⟨⟨P,h1⟩,h2⟩:=madeT_ends hk h (by omega)
 have hm:=h.made hk (by omega)
 obtain⟨m1,m2,_⟩:=made_ext hm hn
 have hcnt:=Nat.le_trans (sc_count s 0) (brk_len s false)
 obtain⟨n0,a0,k0,g1,g2⟩:=h1.all
 obtain⟨a,k1,g3,g4⟩:=split_pos (sc 0 s).1 [] s.length 0 n0 (by have:=hm.2.2.1;simp;omega) g1 (items_nil s.length (libOps k u))
 rw[List.map_nil,List.append_nil,Nat.add_zero] at g3
 simp only[List.map_nil,List.append_nil] at g4
 have hpos:0<(sc 0 s).1.length:=h.some hk (by omega)
 refine⟨(sc 0 s).1,a,k1,m2,by omega,hpos,m1,by unfold extendP;rw[m2];exact g3,fun j hj=>?_⟩
 obtain⟨b1,b2⟩:=h2 j _ (List.getElem?_eq_getElem hj)
 have hl:lex (s.take (sc 0 s).1[j].pos)=((sc 0 s).1.take j,0,(sc 0 s).1[j].pos):=by
  rw[←b2]
  exact lex_sc' _ (by rw[List.length_take];omega) (Nat.le_trans (brk_len _ false) (by rw[List.length_take];omega))
 have hlen:(s.take (sc 0 s).1[j].pos).length=(sc 0 s).1[j].pos:=by rw[List.length_take];omega
 refine⟨b1,by rw[hl],?_⟩
 rw[g4,g2]
 unfold extendP
 rw[hl,hlen]
 exact h1.cut j hj
end Lfc
namespace Go.Proofs.YthajalgkjonaaaaGreatDoor
open Go.RowKit
def cntI(p:Nat)(l:List (Lfc.Itm × IS)):Nat:=l.countP (fun y=>decide (y.1.pos<p))
def whI(p:Nat)(l:List (Lfc.Itm × IS)):Bool:=l.any (fun y=>decide (y.1.pos=p))
theorem cntI_snoc(p:Nat)(l:List (Lfc.Itm × IS))(y:Lfc.Itm × IS):cntI p (l++[y])=cntI p l+(if y.1.pos<p then 1 else 0):=by
 unfold cntI
 rw[List.countP_append]
 by_cases h:y.1.pos<p <;> simp[h]
theorem whI_snoc(p:Nat)(l:List (Lfc.Itm × IS))(y:Lfc.Itm × IS):whI p (l++[y])=(whI p l || decide (y.1.pos=p)):=by
 unfold whI
 simp[List.any_append]
theorem cntI_le(p:Nat)(l:List (Lfc.Itm × IS)):cntI p l≤l.length:=List.countP_le_length
theorem cntI_map(p:Nat)(l:List (Lfc.Itm × IS)):((l.map Prod.fst).map (·.pos)).countP (fun x=>decide (x<p))=cntI p l:=by
 unfold cntI
 rw[List.countP_map,List.countP_map]
 rfl
theorem whI_mem(p:Nat)(l:List (Lfc.Itm × IS)):whI p l=true↔p∈(l.map Prod.fst).map (·.pos):=by
 unfold whI
 rw[List.any_eq_true,List.map_map,List.mem_map]
 exact⟨fun⟨y,hy,e⟩=>⟨y,hy,by simpa using e⟩,fun⟨y,hy,e⟩=>⟨y,hy,by simpa using e⟩⟩
theorem end_len{b:List Lfc.Itm}{o:List Lfc.Op}{ys:List (Lfc.Itm × IS)}{n:Nat}(h:(b,o).1=ys.map Prod.fst)(g:b.length=n):((ys.length:Int) == (n:Int))=true:=by
 have h:b=ys.map Prod.fst:=h
 rw[h,List.length_map] at g
 rw[g]
 simp
set_option maxRecDepth 100000 in
set_option maxHeartbeats 8000000 in
theorem parseEnds_walk(v0:Value)(z0:List Int)(x:Int)(w:World)(i0:IntsAt w v0 z0) :
  Calls Tryz.prog 6 #[v0,.int .i64 x] w fun e w'=>e=.returned (.bool true)∧Below w.heap.size w w':=by
 obtain⟨wT,hwT⟩:∃wT,w.alloc (.cells #[v0,.int .i64 0] 50)=wT:=⟨_,rfl⟩
 have bT:Below w.heap.size w wT:=by rw[←hwT];exact(Below.refl _ _).alloc (Nat.le_refl _) _
 have qT:wT.heap[w.heap.size]?=some (.cells #[v0,.int .i64 0] 50 (0,0)):=by rw[←hwT];exact heap_alloc_new _ _
 have C1:=Lib.hid (madeText_any w.heap.size wT (tapeL_new i0 w.heap.size (Nat.le_refl _) bT qT))
 have BT:=Lib.hid bT
 obtain⟨A0,c0,rfl,_⟩:=i0
 clear bT qT
 go_enter Tryz.func6,Tryz.ntmps6
 go_upto_region 2 with(go_at_call 21;refine C1.out.mono ?_;rintro e w2⟨⟨s,kk,uu,n,rfl,hkk,hmT,hn⟩,t2,o2⟩)
 have b2:Below w.heap.size w w2:=Oth.below BT.out o2 (Nat.le_refl _) BT.out.size
 obtain⟨T,a,k0,e1,e2,e3,e4,e5,e6⟩:=Lfc.ends_law hkk hmT hn
 have hlex0:(Lfc.lex s).2.1=0:=by rw[e1]
 have P1:=Lib.hid (fun W=>parse_any s W (by omega) (dirsOK_all hlex0))
 rw[e5] at P1
 have LX:=Lib.hid (fun W=>lex_any s W (by omega))
 rw[e1] at LX
 have hfa:=(Lfc.ext_fit e5).1
 have E6:=Lib.hid e6
 have B2:=Lib.hid b2
 generalize Lfc.libOps kk uu=q at *
 clear hmT hkk t2 o2 b2 e1 e5 e6 hlex0 C1 hwT
 go_upto_region 3 with(go_at_call 9;refine(P1.out _).mono ?_;rintro e w3⟨⟨xs,A,ca,B,d,hxs,rfl,hv,hcap,ho⟩,b3⟩)
 have B3:=Lib.hid (B2.out.trans (b3.mono B2.out.size))
 have HXV:=Lib.hid hv
 clear hv ho b3 P1
 go_upto_region 4 with(go_at_call 22;refine(LX.out _).mono ?_;rintro e w4⟨v4,rfl,hown4,b4⟩;obtain⟨A4,c4,rfl⟩:=own_form hown4)
 have HT4:=TokAt.of_own hown4
 have B4:=Lib.hid (B3.out.trans (b4.mono B3.out.size))
 have HXV4:=Lib.hid (HXV.out.below b4)
 clear hown4 b4 LX HXV
 have hj:=cutI_lt x T.length e3
 have CC:=Lib.hid (fun W=>cut_any x T.length W e3 (by omega))
 obtain⟨Ax,cx,ex,hcx,hTc⟩:=HT4
 cases ex
 obtain⟨bt,ot,rfl,hbt,hcl⟩:=hTc e3
 obtain⟨_,_,d2⟩:=hcl (cutI x T.length) _ (List.getElem?_eq_getElem hj)
 obtain⟨h1,h2,h3⟩:=E6.out (cutI x T.length) hj
 have hxs':a=xs.map Prod.fst:=hxs
 have hlx:xs.length≤20000:=by
  have h:a.length≤20000:=hfa
  rw[hxs'] at h
  simpa using h
 rw[hxs'] at h3
 generalize T[cutI x T.length].pos=p at *
 generalize cutI x T.length=j at *
 have P2:=Lib.hid (fun W=>parse_any (s.take p) W (by rw[List.length_take];omega) (dirsOK_all h2))
 have H3:=Lib.hid h3
 have hjj0:(0:Int)≤(j:Int):=Int.natCast_nonneg _
 have hjj1:(j:Int)<(T.length:Int):=by omega
 have hT0:((T.length:Int) == 0)=false:=by rw[beq_eq_false_iff_ne];omega
 clear hcl hTc E6 hxs' hxs hfa h2 h3 hbt hcx
 go_upto_region 7 with(go_at_call 23;refine(CC.out _).mono ?_;rintro e wc⟨rfl,hwc⟩;have hwc:=hwc.symm;subst hwc)
 clear d2 CC
 go_wp2_with fail
 go_loopw [14,15,16] (fun cv wv iv wr=>∃k:Nat,k≤xs.length∧iv=.int .i64 (k:Int)∧cv=.int .i64 (cntI p (xs.take k):Int)∧wv=.bool (whI p (xs.take k))∧Below w4.heap.size w4 wr) (fun _ _ iv _=>xs.length-(intOf iv).toNat)
 case atStart=>exact⟨0,by omega,rfl,rfl,rfl,Below.refl _ _⟩
 case round =>
  obtain⟨k,hk,rfl,rfl,rfl,hbw⟩:=hrel
  by_cases hlt:k<xs.length
  ·obtain⟨bx,ox,rfl,hbx,hcs,_⟩:=HXV4.out (by intro e;rw[e] at hlt;simp at hlt)
   have I0:=(it_at hcs hlt).below hbw hbx
   have y1:wr.cell? ⟨bx,ox+k*22+1,none⟩=some (.int .i64 (xs[k].1.pos:Int)):=I0 1 _ rfl
   have HTK:Hid (xs.take (k+1)=xs.take k++[xs[k]]):=Lib.hid (List.take_succ_eq_append_getElem hlt)
   have HCN:=Lib.hid (cntI_snoc p (xs.take k) xs[k])
   have HWN:=Lib.hid (whI_snoc p (xs.take k) xs[k])
   rw[←HTK.out] at HCN HWN
   have hcl0:cntI p (xs.take k)≤20000:=Nat.le_trans (cntI_le _ _) (by rw[List.length_take];omega)
   have hi0:(0:Int)≤(k:Int):=Int.natCast_nonneg _
   have hi1:(k:Int)<(xs.length:Int):=by omega
   generalize xs[k].1.pos=r at *
   generalize cntI p (xs.take k)=cn at *
   generalize whI p (xs.take k)=wh at *
   clear hcs I0 HTK
   rcases Nat.lt_trichotomy r p with h | h | h
   ·have g1:decide (r<p)=true:=by simpa using h
    have g2:((r:Int) == (p:Int))=false:=by simp;omega
    have HC:=Lib.hid (show cntI p (xs.take (k+1))=cn+1 by rw[HCN.out,if_pos h])
    have HW:=Lib.hid (show whI p (xs.take (k+1))=wh by rw[HWN.out,decide_eq_false (by omega)];cases wh <;> rfl)
    clear HCN HWN h
    cases wh
    all_goals
     go_wp2_with fail
     go_roundw
     case rel=>exact⟨k+1,by omega,by go_num,by rw[HC.out];go_num,by rw[HW.out],hbw⟩
     case measure=>simp[intOf];omega
   ·have g1:decide (r<p)=false:=by simp;omega
    have g2:((r:Int) == (p:Int))=true:=by simp;omega
    have HC:=Lib.hid (show cntI p (xs.take (k+1))=cn by rw[HCN.out,if_neg (by omega)];rfl)
    have HW:=Lib.hid (show whI p (xs.take (k+1))=true by rw[HWN.out,decide_eq_true h];cases wh <;> rfl)
    clear HCN HWN h
    cases wh
    all_goals
     go_wp2_with fail
     go_roundw
     case rel=>exact⟨k+1,by omega,by go_num,by rw[HC.out],by rw[HW.out],hbw⟩
     case measure=>simp[intOf];omega
   ·have g1:decide (r<p)=false:=by simp;omega
    have g2:((r:Int) == (p:Int))=false:=by simp;omega
    have HC:=Lib.hid (show cntI p (xs.take (k+1))=cn by rw[HCN.out,if_neg (by omega)];rfl)
    have HW:=Lib.hid (show whI p (xs.take (k+1))=wh by rw[HWN.out,decide_eq_false (by omega)];cases wh <;> rfl)
    clear HCN HWN h
    cases wh
    all_goals
     go_wp2_with fail
     go_roundw
     case rel=>exact⟨k+1,by omega,by go_num,by rw[HC.out],by rw[HW.out],hbw⟩
     case measure=>simp[intOf];omega
  ·obtain rfl:k=xs.length:=by omega
   have BB:=Lib.hid (B4.out.trans (hbw.mono B4.out.size))
   rw[List.take_length]
   have HW:=Lib.hid (whI_mem p xs)
   have hlen:(s.take p).length=p:=by rw[List.length_take];omega
   have hcl0:cntI p xs≤20000:=Nat.le_trans (cntI_le _ _) hlx
   rcases H3.out with⟨hm,b,o,kk,g1,g2⟩ | ⟨hm,cE,eE,g1,g2⟩
   ·have hwh:whI p xs=true:=HW.out.2 hm
    rw[cntI_map] at g2
    rw[g1] at P2
    rw[hwh]
    rw[hlen] at P2
    clear hwh g1 H3 HW HXV4 hm
    go_wp2_with (first
     |(go_at_call 9;refine(P2.out _).mono ?_;rintro e w6⟨⟨ys,A6,c6,B6,d6,hys,rfl,_,_,_⟩,b6⟩;have hyl:((ys.length:Int) == (cntI p xs:Int))=true:=end_len hys g2)
     |(go_at_call 12;refine(awake4_any _).mono ?_;rintro e w7⟨rfl,b7⟩))
    go_ret
    exact⟨rfl,BB.out.trans ((b6.trans (b7.mono b6.size)).mono BB.out.size)⟩
   ·have hwh:whI p xs=false:=by
     cases hq:whI p xs
     ·rfl
     ·exact absurd (HW.out.1 hq) hm
    rw[g1] at P2
    rw[hwh]
    clear hwh g1 H3 HW HXV4 hm
    rcases g2 with⟨rfl,rfl⟩ | ⟨rfl,hlt9⟩
    ·go_wp2_with (first
      |(go_at_call 9;refine(P2.out _).mono ?_;rintro e w6⟨rfl,b6⟩)
      |(go_at_call 12;refine(awake4_any _).mono ?_;rintro e w7⟨rfl,b7⟩))
     go_ret
     exact⟨rfl,BB.out.trans ((b6.trans (b7.mono b6.size)).mono BB.out.size)⟩
    ·have g3:decide (eE<p)=true:=by simpa using hlt9
     go_wp2_with (first
      |(go_at_call 9;refine(P2.out _).mono ?_;rintro e w6⟨rfl,b6⟩)
      |(go_at_call 12;refine(awake4_any _).mono ?_;rintro e w7⟨rfl,b7⟩))
     go_ret
     exact⟨rfl,BB.out.trans ((b6.trans (b7.mono b6.size)).mono BB.out.size)⟩
end Go.Proofs.YthajalgkjonaaaaGreatDoor
namespace Go.Proofs.YthajalgkjonaaaaGreatDoor
open Go.RowKit
theorem laid_noneE{W:World}(hL:laidMetH Tryz.prog Rows.parseEndsRow.laid W):True:=trivial
theorem parseEnds_walkT(v0:Value)(z0:List Int)(x:Int)(w:World)(i0:IntsAt w v0 z0)(hx:(Lit.int .i64 x).wf=true)(h:True) :
  Calls Tryz.prog 6 #[v0,.int .i64 x] w fun e w'=>e=.returned (.bool true)∧Below w.heap.size w w':=parseEnds_walk v0 z0 x w i0
end Go.Proofs.YthajalgkjonaaaaGreatDoor
namespace Go.Proofs.YthajalgkjonaaaaGreatDoor.parseEnds
open Go.ChangeShapes Go.WideShapes Go.ChangeAt Go.RowKit
theorem readable:∀t∈Tryz.f6.params.toList,Tryz.prog.readableRec t=true∧t<Tryz.prog.types.size:=by
 have h:(Tryz.f6.params.toList.all fun t=>Tryz.prog.readableRec t && decide (t<Tryz.prog.types.size))=true:=by kernel_rfl
 intro t ht
 have:=List.all_eq_true.1 h t ht
 simp only[Bool.and_eq_true,decide_eq_true_eq] at this
 exact this
set_option maxRecDepth 100000 in
theorem contract(H:Type)(enc:TypeId × Value→H)(W:World)(base:Nat)(args:Array Value)(ds gs:List (DataW H))(before:List MemPlace)
  (hval:∀(j:Nat) t v,Tryz.f6.params[j]?=some t→args[j]?=some v→Value.okWide Tryz.prog W .any base t v)
  (hW:DataW.Whole enc Tryz.prog Tryz.f6.params.toList Rows.parseEndsSpec.vars false W args.toList ds gs before) (hL:laidMetH Tryz.prog Rows.parseEndsRow.laid W) :
  Calls Tryz.prog 6 args W fun e W'=>∃v,e=.returned v∧Rows.parseEndsSpec.post enc Tryz.prog Tryz.f6 false true false false W args v W':=by
 have hW':=hW
 obtain⟨p,q,hA0,hV,rfl,hfz,hnd⟩:=hW
 have hA:DataW.TrodAll enc Tryz.prog W 0 (fun _=>true) true Tryz.f6.params.toList args.toList ds p:=hA0
 rw[Tryz.params6] at hA hval
 obtain⟨v0,v1,d0,d1,p0,p1,rfl,rfl,rfl,h0,h1⟩:=trodAll_two hA
 obtain⟨rfl,rfl⟩:=trodVars_none hV
 obtain⟨z0,i0⟩:=intsAt_of (hval 0 22 v0 rfl rfl) h0
 obtain⟨z1,rfl,rfl,rfl,w1⟩:=open_int Tryz.underlying3 (hval 1 3 v1 rfl rfl) h1
 clear hA0
 refine(parseEnds_walkT v0 z0 z1 W i0 w1 (laid_noneE hL)).mono fun e W' ⟨he,hb⟩=>?_
 subst he
 exact⟨_,rfl,law_post rfl ⟨rfl,rfl,rfl⟩ rfl readable hW' hb⟩
theorem laid_met(os:Os):laidMet Tryz.prog Rows.parseEndsRow.laid ((World.doorLaid Tryz.prog 400 os).forCall (fun _ _=>0) ⟨#[],#[.slice none 0 0,.int .i64 0],[]⟩).memory :=
 laidMet_of_run' 8 (by kernel_rfl) (by kernel_rfl)
theorem reads(os:Os){H:Type}(enc:TypeId × Value→H):∃places,DataW.whole enc Tryz.prog ((World.doorLaid Tryz.prog 400 os).forCall (fun _ _=>0) ⟨#[],#[.slice none 0 0,.int .i64 0],[]⟩).memory Tryz.f6.params.toList Rows.parseEndsSpec.vars false (#[.slice none 0 0,.int .i64 0]:Array Value).toList 8=some ([.nil,.lit (.int .i64 0)],[],places) :=
 ⟨[],by kernel_rfl⟩
set_option maxRecDepth 100000 in
theorem lifted(os:Os)(started:os.Started)(H:Type)(enc:TypeId × Value→H)(F:Stop.Interp) :
  ReturnsInHanded {} Tryz.checked os 6 .any ((OpenSpec.ofChange Rows.parseEndsSpec).preRow enc Tryz.prog Tryz.f6 Rows.parseEndsRow.domain false Rows.parseEndsRow.laid) (((OpenSpec.ofChange Rows.parseEndsSpec).at F).post enc Tryz.prog Tryz.f6 false true false false):=by
 obtain⟨places,hx⟩:=reads os enc
 refine returnsInHanded_of_row (C:=Tryz.checked) (s:=OpenSpec.ofChange Rows.parseEndsSpec) own started (by kernel_rfl) Tryz.func6
  (witness_row_atRef (enc:=enc) (C:=Tryz.checked) false (World.doorLaid Tryz.prog 400 os) #[.slice none 0 0,.int .i64 0] rfl (by kernel_rfl) (by kernel_rfl) (by kernel_rfl)
   (OpenSpec.preRow_of_cond 8 hx (by kernel_rfl) (fun k hk=>by cases hk) (by kernel_rfl) (laid_met os))) ?_
 intro W base args ds gs before hval hW _ _ _ hL _ _
 exact contract H enc W base args ds gs before hval hW hL
theorem said:Rows.ParseEndsSaid :=
 OpenClaim.holds_of_cond 6 Tryz.f6 rfl rfl rfl rfl rfl rfl rfl ⟨rfl,rfl,rfl,rfl,rfl⟩ rfl rfl rfl rfl rfl (by kernel_rfl) Tryz.func6 (by kernel_rfl)
  (of_decide_eq_true (by kernel_rfl)) (by unfold Func.isWrapper;first | (rw[if_pos (by decide +kernel)];kernel_rfl) | (rw[if_neg (by decide +kernel)];exact⟨rfl,rfl⟩))
  (fun os started H enc _ F=>by rw[OpenClaim.pre_eq_preRow];exact lifted os started H enc F)
theorem plain(f:FuncId)(fn:Func)(hf:Tryz.pinned.checked.prog.funcNamed Rows.parseEndsRow.func=some f)(hfn:Tryz.pinned.checked.prog.funcs[f]?=some fn) :
  true=Tryz.pinned.checked.prog.looks []∧∀(j:Nat) t,fn.params[j]?=some t→Tryz.pinned.checked.prog.wantsStandIn t=false:=by
 obtain rfl:f=6:=Option.some.inj ((show Tryz.prog.funcNamed Rows.parseEndsRow.func=some 6 by kernel_rfl).symm.trans hf) |>.symm
 obtain rfl:fn=Tryz.f6:=(Option.some.inj (Tryz.func6.symm.trans hfn)).symm
 refine⟨by kernel_rfl,fun j t ht=>?_⟩
 have hall:(Tryz.f6.params.toList.all fun u=>!Tryz.prog.wantsStandIn u)=true:=by kernel_rfl
 have hm:t∈Tryz.f6.params.toList:=by simpa using Array.mem_of_getElem? ht
 exact(show Tryz.prog.wantsStandIn t=false by simpa using List.all_eq_true.1 hall t hm)
theorem card:Rows.ParseEndsCardSaid :=
 Claim7.holds_tied_plain_at .later [] _ _ _ _ said (fun _ h=>by cases h) (by kernel_rfl) (fun _ h=>by cases h) parseEnds_row_tie rfl ⟨rfl,rfl⟩ (by kernel_rfl) rfl plain (by kernel_rfl)
end Go.Proofs.YthajalgkjonaaaaGreatDoor.parseEnds
