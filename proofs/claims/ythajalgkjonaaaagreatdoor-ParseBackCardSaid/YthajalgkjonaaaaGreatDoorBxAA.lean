/- Parts of the proof that no input makes the law false: Plain, RawPlain, OpP, OpSz, PaP, PaB, PaN, OrP, PaStrip. -/
set_option linter.unusedVariables false
set_option linter.unusedSimpArgs false
set_option maxRecDepth 100000
set_option maxHeartbeats 32000000
namespace Lfc
def blankB(c:UInt8):Bool:=decide (c.toNat=32∨c.toNat=9∨c.toNat=10∨c.toNat=13)
def letterB(c:UInt8):Bool:=decide (97≤c.toNat∧c.toNat≤122)
def specialB(c:UInt8):Bool:=decide (c.toNat=40∨c.toNat=41∨c.toNat=91∨c.toNat=93∨c.toNat=123∨c.toNat=125∨c.toNat=58∨c.toNat=46)
def nameB(c:UInt8):Bool:=decide ((33≤c.toNat∧c.toNat≤126)∧¬(c.toNat=40∨c.toNat=41∨c.toNat=91∨c.toNat=93∨c.toNat=123∨c.toNat=125∨c.toNat=58∨c.toNat=46)∧¬c.toNat=37)
def notNlB(c:UInt8):Bool:=decide (¬c.toNat=10)
def reservedB(l:List UInt8):Bool:=l == [45,62] || l == [60,45] || l == [61] || l == [95] || l == [116,121,112,101]
def runLen(p:UInt8→Bool):List UInt8→Nat
 |[]=>0
 |c :: r=>if p c then runLen p r+1 else 0
def cmt:Nat→List UInt8→Option (List UInt8)
 |d,a :: b :: r =>
  if a.toNat=37∧b.toNat=123 then cmt (d+1) r
  else if a.toNat=125∧b.toNat=37 then(if d≤1 then some r else cmt (d-1) r)
  else cmt d (b :: r)
 |_,_=>none
structure Nx where
 kind:Int
 text:List UInt8
 len:Nat
 err:Int
def pc(r:List UInt8):Nx :=
 match r with
 |[]=>⟨0,[],1,0⟩
 |b :: r' =>
  if b.toNat=123 then
   match cmt 1 r' with
   |some rest=>⟨0,[],2+r'.length-rest.length,0⟩
   |none=>⟨0,[],0,11⟩
  else if runLen letterB (b :: r')=0 then⟨0,[],runLen notNlB (b :: r')+1,0⟩
  else if 64<runLen letterB (b :: r') then⟨0,[],0,12⟩
  else⟨3,(b :: r').take (runLen letterB (b :: r')),runLen letterB (b :: r')+1,0⟩
def nm(word:List UInt8):Nx :=
 if 64<word.length then⟨0,[],0,12⟩ else⟨if reservedB word then 2 else 1,word,word.length,0⟩
def nx:List UInt8→Nx
 |[]=>⟨0,[],0,10⟩
 |c :: r =>
  if blankB c then⟨0,[],1,0⟩
  else if c.toNat=37 then pc r
  else if nameB c then nm ((c :: r).take (runLen nameB (c :: r)))
  else if specialB c then⟨2,[c],1,0⟩
  else⟨0,[],0,10⟩
structure Tok where
 kind:Int
 text:List UInt8
 pos:Nat
def lexF:Nat→Nat→List UInt8→List Tok→List Tok × Int × Nat
 |0,n,_,acc=>(acc,0,n)
 |_+1,n,[],acc=>(acc,0,n)
 |f+1,n,c :: r,acc =>
  if (nx (c :: r)).err≠0 then([],(nx (c :: r)).err,n)
  else if (nx (c :: r)).kind=0 then lexF f (n+(nx (c :: r)).len) ((c :: r).drop (nx (c :: r)).len) acc
  else if acc.length=20000 then([],7,n)
  else lexF f (n+(nx (c :: r)).len) ((c :: r).drop (nx (c :: r)).len) (acc++[⟨(nx (c :: r)).kind,(nx (c :: r)).text,n⟩])
def lex(l:List UInt8):List Tok × Int × Nat:=if 65536<l.length then([],12,0) else lexF l.length 0 l []
def isName(l:List UInt8):Bool:=decide (¬l=[]) && decide (l.length≤64) && decide (runLen nameB l=l.length) && !reservedB l && decide (¬(l.headD 0).toNat=64)
theorem runLen_le(p:UInt8→Bool)(l:List UInt8):runLen p l≤l.length:=by
 induction l with
 |nil=>simp[runLen]
 |cons c r ih=>simp only[runLen,List.length_cons];split <;> omega
theorem cmt_len:∀(n:Nat)(l:List UInt8),l.length≤n→∀(d:Nat)(r:List UInt8),cmt d l=some r→r.length+2≤l.length:=by
 intro n;induction n with
 |zero=>intro l hl d r h;obtain rfl:=List.eq_nil_of_length_eq_zero (by omega:l.length=0);simp[cmt] at h
 |succ n ih =>
  intro l hl d r h
  match l,hl,h with
  |[],_,h=>simp[cmt] at h
  |[a],_,h=>simp[cmt] at h
  |a :: b :: t,hl,h =>
   simp only[List.length_cons] at hl ⊢;rw[cmt] at h;split at h
   ·have:=ih t (by omega) _ _ h;omega
   split at h
   ·split at h
    ·cases h;omega
    have:=ih t (by omega) _ _ h;omega
   have:=ih (b :: t) (by simp;omega) _ _ h;simp at this;omega
theorem nx_len(c:UInt8)(r:List UInt8)(h:(nx (c :: r)).err=0):1≤(nx (c :: r)).len∧(nx (c :: r)).len≤r.length+1:=by
 simp only[nx] at h ⊢;split
 ·simp
 rename_i hb;rw[if_neg hb] at h;split
 ·rename_i h37;rw[if_pos h37] at h;unfold pc at h ⊢
  match r,h with
  |[],h=>simp
  |b :: r',h =>
   simp only at h ⊢;split
   ·rename_i h123;rw[if_pos h123] at h;cases hc:cmt 1 r' with
    |none=>rw[hc] at h;simp at h
    |some t=>have:=cmt_len _ r' (Nat.le_refl _) _ _ hc;simp;omega
   rename_i h123;rw[if_neg h123] at h;split
   ·have:=runLen_le notNlB (b :: r');simp at this ⊢;omega
   rename_i hl;rw[if_neg hl] at h;split
   ·rename_i h64;rw[if_pos h64] at h;simp at h
   have:=runLen_le letterB (b :: r');simp at this ⊢;omega
 rename_i h37;rw[if_neg h37] at h;split
 ·rename_i hn;rw[if_pos hn] at h;have h1:=runLen_le nameB (c :: r);have h2:1≤runLen nameB (c :: r):=by rw[runLen,if_pos hn];omega
  simp only[List.length_cons] at h1;have h3:((c :: r).take (runLen nameB (c :: r))).length=runLen nameB (c :: r):=by rw[List.length_take,List.length_cons];omega
  unfold nm at h ⊢;split
  ·rename_i h64;rw[if_pos h64] at h;simp at h
  simp only[h3];omega
 rename_i hn;rw[if_neg hn] at h;split
 ·simp
 rename_i hs;rw[if_neg hs] at h;simp at h
def lexR(n:Nat)(l:List UInt8)(acc:List Tok):List Tok × Int × Nat:=lexF l.length n l acc
theorem lexF_any:∀(m f g n:Nat)(l:List UInt8)(acc:List Tok),l.length≤m→l.length≤f→l.length≤g→lexF f n l acc=lexF g n l acc:=by
 intro m;induction m with
 |zero =>
  intro f g n l acc h _ _;obtain rfl:=List.eq_nil_of_length_eq_zero (by omega:l.length=0);cases f <;> cases g <;> rfl
 |succ m ih =>
  intro f g n l acc h hf hg
  match l,h,hf,hg with
  |[],_,_,_=>cases f <;> cases g <;> rfl
  |c :: r,h,hf,hg =>
   simp only[List.length_cons] at h hf hg;obtain⟨f,rfl⟩:∃k,f=k+1:=⟨f-1,by omega⟩;obtain⟨g,rfl⟩:∃k,g=k+1:=⟨g-1,by omega⟩;rw[lexF,lexF];by_cases he:(nx (c :: r)).err≠0
   ·rw[if_pos he,if_pos he]
   have hl:=nx_len c r (by simpa using he);have hd:((c :: r).drop (nx (c :: r)).len).length≤r.length:=(by rw[List.length_drop,List.length_cons];omega);rw[if_neg he,if_neg he,ih f g _ _ acc (by omega) (by omega) (by omega),ih f g _ _ (acc++_) (by omega) (by omega) (by omega)]
theorem lexR_nil(n:Nat)(acc:List Tok):lexR n [] acc=(acc,0,n):=rfl
theorem lexR_cons(n:Nat)(c:UInt8)(r:List UInt8)(acc:List Tok):lexR n (c :: r) acc =
  if (nx (c :: r)).err≠0 then([],(nx (c :: r)).err,n)
  else if (nx (c :: r)).kind=0 then lexR (n+(nx (c :: r)).len) ((c :: r).drop (nx (c :: r)).len) acc
  else if acc.length=20000 then([],7,n)
  else lexR (n+(nx (c :: r)).len) ((c :: r).drop (nx (c :: r)).len) (acc++[⟨(nx (c :: r)).kind,(nx (c :: r)).text,n⟩]):=by
 rw[lexR,List.length_cons,lexF];by_cases he:(nx (c :: r)).err≠0
 ·rw[if_pos he,if_pos he]
 have hl:=nx_len c r (by simpa using he);have hd:((c :: r).drop (nx (c :: r)).len).length≤r.length:=by rw[List.length_drop,List.length_cons];omega
 rw[if_neg he,if_neg he,lexR,lexR,lexF_any r.length r.length _ _ _ acc hd hd (Nat.le_refl _),lexF_any r.length r.length _ _ _ (acc++_) hd hd (Nat.le_refl _)]
theorem lex_eq(l:List UInt8):lex l=if 65536<l.length then([],12,0) else lexR 0 l []:=rfl
end Lfc
namespace Lfc
inductive Raw where
 |node (kind:Int) (name:List UInt8) (pos:Int) (args:List Raw)
def Raw.kind:Raw→Int | .node k _ _ _=>k
def Raw.name:Raw→List UInt8 | .node _ n _ _=>n
def Raw.pos:Raw→Int | .node _ _ p _=>p
def Raw.args:Raw→List Raw | .node _ _ _ as=>as
mutual
def Raw.size:Raw→Nat
 |.node _ _ _ as=>Raw.sizes as+1
def Raw.sizes:List Raw→Nat
 |[]=>0
 |a :: r=>Raw.size a+Raw.sizes r
end
mutual
def Raw.depth:Raw→Nat
 |.node _ _ _ as=>Raw.depths as+1
def Raw.depths:List Raw→Nat
 |[]=>0
 |a :: r=>max (Raw.depth a) (Raw.depths r)
end
mutual
def Raw.same(at_:Bool):Raw→Raw→Bool
 |.node k n p as,.node k' n' p' as'=>decide (k=k') && decide (n=n') && (!at_ || decide (p=p')) && Raw.sames at_ as as'
def Raw.sames(at_:Bool):List Raw→List Raw→Bool
 |[],[]=>true
 |a :: r,a' :: r'=>Raw.same at_ a a' && Raw.sames at_ r r'
 |_,_=>false
end
def formed(k:Int)(n:List UInt8)(m:Nat):Bool :=
 if k=1∨k=2 then isName n && decide (m=0)
 else if k=3∨k=4 then decide (n=[]) && decide (m=0)
 else if k=5∨k=6∨k=9 then decide (n=[]) && decide (m=2)
 else if k=7∨k=8 then(isName n || decide (n=[95])) && (decide (m=1) || decide (m=2))
 else false
mutual
def Raw.form:Raw→Bool
 |.node k n _ as=>formed k n as.length && Raw.forms as
def Raw.forms:List Raw→Bool
 |[]=>true
 |a :: r=>Raw.form a && Raw.forms r
end
def Raw.wf(t:Raw):Int:=if !t.form then 1 else if 4096<t.size∨128<t.depth then 2 else 0
theorem Raw.sizes_app(a b:List Raw):Raw.sizes (a++b)=Raw.sizes a+Raw.sizes b:=by
 induction a with
 |nil=>simp[Raw.sizes]
 |cons x r ih=>simp only[List.cons_append,Raw.sizes,ih];omega
theorem Raw.depths_app(a b:List Raw):Raw.depths (a++b)=max (Raw.depths a) (Raw.depths b):=by
 induction a with
 |nil=>simp[Raw.depths]
 |cons x r ih=>simp only[List.cons_append,Raw.depths,ih];omega
theorem Raw.size_pos(t:Raw):1≤t.size:=by cases t;simp[Raw.size]
theorem Raw.sizes_len(l:List Raw):l.length≤Raw.sizes l:=by
 induction l with
 |nil=>simp[Raw.sizes]
 |cons a r ih=>have:=a.size_pos;simp only[Raw.sizes,List.length_cons];omega
theorem Raw.sizes_mem(l:List Raw)(t:Raw)(h:t∈l):t.size≤Raw.sizes l:=by
 induction l with
 |nil=>cases h
 |cons a r ih =>
  simp only[Raw.sizes];rcases List.mem_cons.1 h with rfl | h
  ·omega
  have:=ih h;omega
theorem Raw.depth_le_size(n:Nat):∀(t:Raw),t.size≤n→t.depth≤t.size:=by
 induction n with
 |zero=>intro t h;have:=t.size_pos;omega
 |succ n ih =>
  intro t h;obtain⟨k,nm,p,as⟩:=t;simp only[Raw.size,Raw.depth] at h ⊢;have:∀(l:List Raw),Raw.sizes l≤n→Raw.depths l≤Raw.sizes l:=by
   intro l;induction l with
   |nil=>intro _;simp[Raw.depths,Raw.sizes]
   |cons a r ihl =>
    intro hl;simp only[Raw.sizes,Raw.depths] at hl ⊢;have h1:=ih a (by omega);have h2:=ihl (by omega);omega
  have:=this as (by omega);omega
end Lfc
namespace Lfc
structure Op where
 name:List UInt8
 fix:Int
 prec:Int
structure Opd where
 tree:Raw
 closed:Bool
def arrR:List UInt8:=[45,62]
def arrL:List UInt8:=[60,45]
def rawZ:Raw:=.node 0 [] 0 []
def opdZ:Opd:=⟨rawZ,false⟩
def Op.bad(o:Op):Int:=if !isName o.name || decide (o.fix<1) || decide (5<o.fix) then 1 else if decide (o.prec<0) || decide (99<o.prec) then 5 else 0
def Opd.arrow(x:Opd):Bool:=!x.closed && decide (x.tree.kind=1) && decide (x.tree.args.length=0) && (decide (x.tree.name=arrR) || decide (x.tree.name=arrL))
def look(l:List Op)(n:List UInt8):Option Op:=if n=arrR then some ⟨[],5,-1⟩ else if n=arrL then some ⟨[],4,-1⟩ else l.find? (fun o=>decide (o.name=n))
def opOf(l:List Op)(x:Opd):Option Op:=if x.closed || decide (x.tree.kind≠1) then none else look l x.tree.name
structure LowS where
 at_:List Nat
 first:Op
 same:Bool
def lowZ:LowS:=⟨[],⟨[],0,0⟩,false⟩
def lowStep(st:LowS)(i:Nat)(o:Option Op):LowS :=
 match o with
 |none=>st
 |some o=>if st.at_.length=0∨o.prec<st.first.prec then⟨[i],o,true⟩ else if o.prec=st.first.prec then⟨st.at_++[i],st.first,st.same && decide (o.fix=st.first.fix)⟩ else st
def lowN(l:List Op)(st:LowS):Nat→List Opd→LowS
 |_,[]=>st
 |i,x :: r=>lowN l (lowStep st i (opOf l x)) (i+1) r
def low(l:List Op)(s:List Opd):LowS:=lowN l lowZ 0 s
theorem lowN_app(l:List Op):∀(a b:List Opd)(st:LowS)(i:Nat),lowN l st i (a++b)=lowN l (lowN l st i a) (i+a.length) b
 |[],b,st,i=>by simp[lowN]
 |x :: r,b,st,i=>by
  rw[List.cons_append,lowN,lowN,lowN_app l r b]
  congr 1
  simp;omega
theorem low_succ(l:List Op)(s:List Opd)(j:Nat)(h:j<s.length):low l (s.take (j+1))=lowStep (low l (s.take j)) j (opOf l s[j]):=by
 unfold low;rw[List.take_succ_eq_append_getElem h,lowN_app];simp only[lowN,List.length_take,Nat.zero_add];rw[Nat.min_eq_left (by omega)]
def Places(n:Nat)(l:List Nat):Prop:=l.Pairwise (· < ·)∧∀i∈l,i<n
theorem low_places(l:List Op)(s:List Opd):∀j,j≤s.length→Places j (low l (s.take j)).at_
 |0,_=>by simp[low,lowN,lowZ,Places]
 |j+1,h=>by
  have ih:=low_places l s j (by omega);rw[low_succ l s j (by omega)];unfold lowStep;cases opOf l s[j] with
  |none=>exact⟨ih.1,fun i hi=>by have:=ih.2 i hi;omega⟩
  |some o =>
   simp only;split
   ·exact⟨by simp,fun i hi=>by simp at hi;omega⟩
   split
   ·refine⟨?_,fun i hi=>?_⟩
    ·show List.Pairwise (· < ·) (_++[j]);rw[List.pairwise_append];exact⟨ih.1,by simp,fun a ha b hb=>by simp at hb;subst hb;exact ih.2 a ha⟩
    rw[List.mem_append] at hi;rcases hi with hi | hi
    ·have:=ih.2 i hi;omega
    simp at hi;omega
   exact⟨ih.1,fun i hi=>by have:=ih.2 i hi;omega⟩
theorem low_at(l:List Op)(s:List Opd):Places s.length (low l s).at_:=by
 have:=low_places l s s.length (Nat.le_refl _);rwa[List.take_length] at this
def appT(f a:Raw):Raw:=.node 5 [] f.pos [f,a]
def joinT(o a b:Raw):Raw:=if o.name=arrR then .node 6 [] o.pos [a,b] else if o.name=arrL then .node 6 [] o.pos [b,a] else appT (appT o a) b
def appAll(s:List Opd):Raw:=(s.drop 1).foldl (fun t x=>appT t x.tree) (s.getD 0 opdZ).tree
def segs(s:List Opd):Nat→List Nat→List (List Opd)
 |_,[]=>[]
 |b,e :: r=>(s.take e).drop b :: segs s (e+1) r
def allOk(g:List Opd→Except Int Raw):List (List Opd)→Except Int (List Raw)
 |[]=>.ok []
 |x :: r=>match g x with
  |.error e=>.error e
  |.ok t=>match allOk g r with
   |.error e=>.error e
   |.ok ts=>.ok (t :: ts)
def joinR(z:Raw):List Raw→List Raw→Raw
 |o :: os,p :: ps=>joinT o p (joinR z os ps)
 |_,p :: _=>p
 |_,[]=>z
def joinL(t:Raw)(l:List (Raw × Raw)):Raw:=l.foldl (fun t x=>joinT x.1 t x.2) t
def opTrees(s:List Opd)(at_:List Nat):List Raw:=at_.map fun i=>(s.getD i opdZ).tree
def joined(fix:Int)(ops parts:List Raw):Raw:=if fix=5 then joinR rawZ ops parts else joinL (parts.getD 0 rawZ) (ops.zip (parts.drop 1))
def binT(g:List Opd→Except Int Raw)(s:List Opd)(at_:List Nat)(fix:Int):Except Int Raw :=
 match allOk g (segs s 0 (at_++[s.length])) with
 |.error e=>.error e
 |.ok parts=>.ok (joined fix (opTrees s at_) parts)
def unT(g:List Opd→Except Int Raw)(o:Raw)(rest:List Opd)(there:Bool):Except Int Raw :=
 if there then(match g rest with
  |.error e=>.error e
  |.ok t=>.ok (appT o t)) else .error 21
def lastOf(l:List Nat):Nat:=l.getD (l.length-1) 0
def resBody(l:List Op)(g:List Opd→Except Int Raw)(s:List Opd):Except Int Raw :=
 if (low l s).at_.length=0 then .ok (appAll s)
 else if (low l s).same=false then .error 22
 else if (low l s).first.fix=1 then unT g (s.getD ((low l s).at_.getD 0 0) opdZ).tree (s.drop 1) (decide ((low l s).at_.getD 0 0=0))
 else if (low l s).first.fix=2 then unT g (s.getD (lastOf (low l s).at_) opdZ).tree (s.take (s.length-1)) (decide (lastOf (low l s).at_=s.length-1))
 else if (low l s).first.fix=3∧1<(low l s).at_.length then .error 22
 else binT g s (low l s).at_ (low l s).first.fix
def resP(l:List Op):Nat→List Opd→Except Int Raw
 |0,_=>.error 21
 |m+1,s=>if s.length=0 then .error 21 else resBody l (resP l m) s
def resolved(l:List Op)(s:List Opd):Raw × Int :=
 if l.any (fun o=>decide (o.bad≠0)) then(rawZ,1)
 else if s.any (fun x=>!x.arrow && decide (x.tree.wf=1)) then(rawZ,1)
 else if s.any (fun x=>!x.arrow && decide (x.tree.wf=2)) then(rawZ,2)
 else if s.length=1 then(if (s.getD 0 opdZ).arrow then(rawZ,21) else((s.getD 0 opdZ).tree,0))
 else match resP l s.length s with
  |.error e=>(rawZ,e)
  |.ok t=>if t.wf=0 then(t,0) else(rawZ,2)
def added(l:List Op)(o:Op):List Op × Int :=
 if o.bad≠0 then(l,o.bad) else if l.any (fun x=>decide (x.name=o.name)) then(l,30) else if 512≤l.length then(l,7) else(l++[o],0)
end Lfc
namespace Lfc
def wsum:List Opd→Nat
 |[]=>0
 |x :: r=>x.tree.size+2+wsum r
def psum:List Raw→Nat
 |[]=>0
 |x :: r=>x.size+psum r
def osum:List Raw→Nat
 |[]=>0
 |x :: r=>x.size+2+osum r
def ssum:List (List Opd)→Nat
 |[]=>0
 |x :: r=>wsum x+ssum r
theorem wsum_app:∀a b:List Opd,wsum (a++b)=wsum a+wsum b
 |[],b=>by simp[wsum]
 |x :: r,b=>by rw[List.cons_append,wsum,wsum,wsum_app r b];omega
theorem appT_size(f a:Raw):(appT f a).size=f.size+a.size+1:=by
 unfold appT;simp only[Raw.size,Raw.sizes];omega
theorem joinT_size(o a b:Raw):(joinT o a b).size≤o.size+a.size+b.size+2:=by
 have:=o.size_pos;unfold joinT;split
 ·simp only[Raw.size,Raw.sizes];omega
 split
 ·simp only[Raw.size,Raw.sizes];omega
 rw[appT_size,appT_size];omega
theorem fold_size:∀(s:List Opd)(t:Raw),(s.foldl (fun t x=>appT t x.tree) t).size≤t.size+wsum s
 |[],t=>by simp[wsum]
 |x :: r,t=>by
  rw[List.foldl_cons];have:=fold_size r (appT t x.tree);rw[appT_size] at this;rw[wsum];omega
theorem appAll_size(s:List Opd)(h:0<s.length):(appAll s).size≤wsum s:=by
 cases s with
 |nil=>simp at h
 |cons x r =>
  have:=fold_size r x.tree;simp only[appAll,List.drop_succ_cons,List.drop_zero,List.getD_cons_zero,wsum];omega
theorem joinR_size(z:Raw):∀(ops parts:List Raw),parts.length=ops.length+1→(joinR z ops parts).size≤psum parts+osum ops
 |[],[p],_=>by simp[joinR,psum,osum]
 |o :: os,p :: ps,h=>by
  rw[joinR];have h1:=joinT_size o p (joinR z os ps);have h2:=joinR_size z os ps (by simpa using h);rw[psum,osum];omega
 |[],[],h=>by simp at h
 |[],_ :: _ :: _,h=>by simp at h
 |_ :: _,[],h=>by simp at h
theorem joinL_size:∀(ops parts:List Raw)(t:Raw),(joinL t (ops.zip parts)).size≤t.size+psum parts+osum ops
 |[],parts,t=>by simp only[joinL,List.zip_nil_left,List.foldl_nil];omega
 |o :: os,[],t=>by simp only[joinL,List.zip_nil_right,List.foldl_nil];omega
 |o :: os,p :: ps,t=>by
  have h1:=joinT_size o t p;have h2:=joinL_size os ps (joinT o t p);simp only[joinL,List.zip_cons_cons,List.foldl_cons] at h2 ⊢;rw[psum,osum];omega
theorem joined_size(fix:Int)(ops parts:List Raw)(h:parts.length=ops.length+1):(joined fix ops parts).size≤psum parts+osum ops:=by
 unfold joined;split
 ·exact joinR_size _ _ _ h
 cases parts with
 |nil=>simp at h
 |cons p ps =>
  have:=joinL_size ops ps p;simpa[psum,Nat.add_assoc] using this
theorem allOk_size{g:List Opd→Except Int Raw}(hg:∀s t,g s=.ok t→t.size≤wsum s):∀(l:List (List Opd))(parts:List Raw),allOk g l=.ok parts→psum parts≤ssum l∧parts.length=l.length
 |[],parts,h=>by
  rw[allOk] at h;cases h;simp[psum,ssum]
 |x :: r,parts,h=>by
  rw[allOk] at h;cases hx:g x with
  |error e=>rw[hx] at h;cases h
  |ok t =>
   rw[hx] at h;simp only at h;cases hr:allOk g r with
   |error e=>rw[hr] at h;cases h
   |ok ts =>
    rw[hr] at h;cases h;have h1:=allOk_size hg r ts hr;have h2:=hg x t hx;rw[psum,ssum];simp only[List.length_cons];omega
theorem segs_len(s:List Opd):∀(E:List Nat)(b:Nat),(segs s b E).length=E.length
 |[],_=>rfl
 |e :: r,b=>by rw[segs,List.length_cons,List.length_cons,segs_len s r]
theorem segs_sum(s:List Opd):∀(at_:List Nat)(b:Nat),at_.Pairwise (· < ·)→(∀i∈at_,b≤i∧i<s.length)→ssum (segs s b (at_++[s.length]))+osum (opTrees s at_)=wsum (s.drop b)
 |[],b,_,_=>by simp[segs,ssum,opTrees,osum,List.take_length]
 |e :: r,b,hp,hb=>by
  rw[List.pairwise_cons] at hp;have he:=hb e List.mem_cons_self;have ih:=segs_sum s r (e+1) hp.2 (fun i hi=>⟨hp.1 i hi,(hb i (List.mem_cons_of_mem _ hi)).2⟩);rw[List.cons_append,segs,ssum];have e1:opTrees s (e :: r)=(s.getD e opdZ).tree :: opTrees s r:=rfl;rw[e1,osum];have e2:s.drop b=(s.take e).drop b++s.drop e:=by
   rw[←List.drop_append_of_le_length (by rw[List.length_take];omega),List.take_append_drop]
  have e3:s.drop e=s[e] :: s.drop (e+1):=List.drop_eq_getElem_cons he.2;have e4:s.getD e opdZ=s[e]:=by simp[he.2]
  rw[e2,e3,wsum_app,wsum,e4];omega
theorem wsum_get(s:List Opd)(i:Nat)(h:i<s.length):wsum s=wsum (s.take i)+(s[i].tree.size+2)+wsum (s.drop (i+1)):=by
 have h1:wsum s=wsum (s.take i)+wsum (s.drop i):=by rw[←wsum_app,List.take_append_drop]
 rw[h1,List.drop_eq_getElem_cons h,wsum];omega
theorem resP_size(l:List Op):∀(m:Nat)(s:List Opd)(t:Raw),resP l m s=.ok t→t.size≤wsum s
 |0,s,t,h=>by rw[resP] at h;cases h
 |m+1,s,t,h=>by
  have ih:=resP_size l m;by_cases h0:s.length=0
  ·have:resP l (m+1) s=.error 21:=if_pos h0;rw[this] at h;cases h
  have e0:resP l (m+1) s=resBody l (resP l m) s:=if_neg h0;rw[e0] at h;unfold resBody at h;have hpl:=low_at l s;generalize low l s=L at *;split at h
  ·cases h;exact appAll_size s (by omega)
  rename_i hat;split at h
  ·cases h
  split at h
  ·unfold unT at h;by_cases hth:L.at_.getD 0 0=0
   ·simp only[hth] at h;cases hr:resP l m (s.drop 1) with
    |error e=>rw[hr] at h;cases h
    |ok t1 =>
     rw[hr] at h;cases h;have h1:=ih _ _ hr;have h2:=wsum_get s 0 (by omega);have e1:s.getD 0 opdZ=s[0]:=(by simp[show 0<s.length by omega]);rw[appT_size,e1];simp only[List.take_zero,wsum,Nat.zero_add] at h2;omega
   rw[decide_eq_false hth] at h;simp at h
  split at h
  ·unfold unT at h;by_cases hth:lastOf L.at_=s.length-1
   ·simp only[hth] at h;cases hr:resP l m (s.take (s.length-1)) with
    |error e=>rw[hr] at h;cases h
    |ok t1 =>
     rw[hr] at h;cases h;have h1:=ih _ _ hr;have hl:s.length-1<s.length:=(by omega);have h2:=wsum_get s (s.length-1) hl;have e1:s.getD (s.length-1) opdZ=s[s.length-1]:=(by simp[hl]);rw[appT_size,e1];omega
   rw[decide_eq_false hth] at h;simp at h
  split at h
  ·cases h
  unfold binT at h;cases hr:allOk (resP l m) (segs s 0 (L.at_++[s.length])) with
  |error e=>rw[hr] at h;cases h
  |ok parts =>
   rw[hr] at h;cases h;have h1:=allOk_size ih _ _ hr;rw[segs_len] at h1;have h2:=segs_sum s L.at_ 0 hpl.1 (fun i hi=>⟨Nat.zero_le _,hpl.2 i hi⟩);have h3:=joined_size L.first.fix (opTrees s L.at_) parts (by rw[h1.2];simp[opTrees]);rw[List.drop_zero] at h2;omega
end Lfc
namespace Lfc
inductive PR(α:Type) where
 |out
 |err (e:Int) (a:Nat)
 |ok (x:α) (k:Nat)
structure PE where
 toks:List Tok
 fin:Nat
 ops:List Op
def PR.then{α β:Type}(r:PR α)(f:α→Nat→PR β):PR β:=match r with
 |.out=>.out
 |.err e a=>.err e a
 |.ok x k=>f x k
def PE.pk(p:PE)(k:Nat):Tok:=p.toks.getD k ⟨0,[],p.fin⟩
def PE.is(p:PE)(k:Nat)(kind:Int)(s:List UInt8):Bool:=decide ((p.pk k).kind=kind) && decide ((p.pk k).text=s)
def PE.unexp{α:Type}(p:PE)(k:Nat):PR α:=if k=p.toks.length then .err 24 p.fin else .err 20 (p.pk k).pos
def PE.isNm(p:PE)(k:Nat):Bool:=decide ((p.pk k).kind=1) && isName (p.pk k).text
def PE.punct(p:PE)(k:Nat)(s:List UInt8):PR Unit:=if p.is k 2 s then .ok () (k+1) else p.unexp k
def PE.name(p:PE)(k:Nat):PR (List UInt8):=if p.isNm k then .ok (p.pk k).text (k+1) else p.unexp k
def opdsG(g:Nat→PR (Option Opd)):Nat→Nat→List Opd→PR (List Opd)
 |0,_,_=>.out
 |m+1,k,acc=>match g k with
  |.out=>.out
  |.err e a=>.err e a
  |.ok none _=>.ok acc k
  |.ok (some x) k'=>opdsG g m k' (acc++[x])
def PE.exprG(p:PE)(g:Nat→PR (Option Opd))(k:Nat):PR Raw :=
 (opdsG g (p.toks.length+1) k []).then fun s k' =>
  if s.length=0 then p.unexp k' else if (resolved p.ops s).2≠0 then .err (resolved p.ops s).2 (p.pk k).pos else .ok (resolved p.ops s).1 k'
def PE.parG(p:PE)(g:Nat→PR (Option Opd))(k:Nat):PR Opd :=
 (p.exprG g (k+1)).then fun t k' =>
  (if p.is k' 2 [58] then(p.exprG g (k'+1)).then fun u k''=>.ok (.node 9 [] (p.pk k).pos [t,u]) k'' else .ok t k').then fun t k'' =>
   (p.punct k'' [41]).then fun _ k3=>.ok ⟨t,true⟩ k3
def PE.bindN(p:PE)(k:Nat):PR (List UInt8):=if p.is k 2 [95] then .ok [95] (k+1) else p.name k
def PE.bindG(p:PE)(g:Nat→PR (Option Opd))(kind:Int)(end_:List UInt8)(k:Nat):PR Opd :=
 (p.bindN (k+1)).then fun n k1 =>
  (if p.is k1 2 [58] then(p.exprG g (k1+1)).then fun u k2=>.ok [u] k2 else .ok [] k1).then fun l k2 =>
   (p.punct k2 end_).then fun _ k3=>(p.exprG g k3).then fun u k4=>.ok ⟨.node kind n (p.pk k).pos (l++[u]),true⟩ k4
def PR.opt{α:Type}(r:PR α):PR (Option α):=r.then fun x k=>.ok (some x) k
def PE.leaf(p:PE)(k:Nat)(kind:Int)(n:List UInt8):PR (Option Opd):=.ok (some ⟨.node kind n (p.pk k).pos [],false⟩) (k+1)
def PE.opdG(p:PE)(g:Nat→PR (Option Opd))(k:Nat):PR (Option Opd) :=
 if (p.pk k).kind=1 then
  if isName (p.pk k).text then p.leaf k 1 (p.pk k).text
  else if ((p.pk k).text.headD 0).toNat=64 && isName ((p.pk k).text.drop 1) then p.leaf k 2 ((p.pk k).text.drop 1)
  else .ok none k
 else if (p.pk k).kind≠2 then .ok none k
 else if (p.pk k).text=[95] then p.leaf k 3 []
 else if (p.pk k).text=[116,121,112,101] then p.leaf k 4 []
 else if (p.pk k).text=[45,62]∨(p.pk k).text=[60,45] then p.leaf k 1 (p.pk k).text
 else if (p.pk k).text=[40] then(p.parG g k).opt
 else if (p.pk k).text=[123] then(p.bindG g 7 [125] k).opt
 else if (p.pk k).text=[91] then(p.bindG g 8 [93] k).opt
 else .ok none k
def PE.opdF(p:PE):Nat→Nat→PR (Option Opd)
 |0,_=>.out
 |f+1,k=>p.opdG (p.opdF f) k
def PE.expr(p:PE)(k:Nat):PR Raw:=p.exprG (p.opdF (p.toks.length+1)) k
end Lfc
namespace Lfc
theorem PE.pk_lt{p:PE}{k:Nat}(h:(p.pk k).kind≠0):k<p.toks.length:=by
 rcases Nat.lt_or_ge k p.toks.length with h1 | h1
 ·exact h1
 exact absurd (by unfold PE.pk;rw[List.getD_eq_getElem?_getD,List.getElem?_eq_none h1];rfl) h
theorem PE.is_lt{p:PE}{k:Nat}{s:List UInt8}(h:p.is k 2 s=true):k<p.toks.length:=by
 simp only[PE.is,Bool.and_eq_true,decide_eq_true_eq] at h;exact p.pk_lt (by omega)
theorem PE.nm_lt{p:PE}{k:Nat}(h:p.isNm k=true):k<p.toks.length:=by
 simp only[PE.isNm,Bool.and_eq_true,decide_eq_true_eq] at h;exact p.pk_lt (by omega)
theorem PR.then_ok{α β:Type}{r:PR α}{f:α→Nat→PR β}{y:β}{k:Nat}(h:r.then f=.ok y k):∃x k1,r=.ok x k1∧f x k1=.ok y k:=by
 cases r with
 |out=>cases h
 |err e a=>cases h
 |ok x k1=>exact⟨x,k1,rfl,h⟩
theorem PE.unexp_ok{α:Type}{p:PE}{k k':Nat}{x:α}(h:p.unexp k=.ok x k'):False:=by
 unfold PE.unexp at h;split at h <;> cases h
theorem PE.punct_ok{p:PE}{k k':Nat}{s:List UInt8}{u:Unit}(h:p.punct k s=.ok u k'):k<p.toks.length∧k'=k+1∧p.is k 2 s=true:=by
 unfold PE.punct at h;split at h
 ·rename_i h1;cases h;exact⟨p.is_lt h1,rfl,h1⟩
 exact(p.unexp_ok h).elim
theorem PE.name_ok{p:PE}{k k':Nat}{n:List UInt8}(h:p.name k=.ok n k'):k<p.toks.length∧k'=k+1∧n=(p.pk k).text:=by
 unfold PE.name at h;split at h
 ·rename_i h1;cases h;exact⟨p.nm_lt h1,rfl,rfl⟩
 exact(p.unexp_ok h).elim
theorem PE.bindN_ok{p:PE}{k k':Nat}{n:List UInt8}(h:p.bindN k=.ok n k'):k<p.toks.length∧k'=k+1:=by
 unfold PE.bindN at h;split at h
 ·rename_i h1;cases h;exact⟨p.is_lt h1,rfl⟩
 exact⟨(p.name_ok h).1,(p.name_ok h).2.1⟩
theorem resP_err(l:List Op):∀(m:Nat)(s:List Opd)(e:Int),resP l m s=.error e→e=21∨e=22
 |0,s,e,h=>by rw[resP] at h;cases h;exact .inl rfl
 |m+1,s,e,h=>by
  rw[resP] at h;have un:∀(o:Raw)(rest:List Opd)(th:Bool),unT (resP l m) o rest th=.error e→e=21∨e=22:=fun o rest th hu=>by
   unfold unT at hu;split at hu
   ·cases h2:resP l m rest with
    |error e'=>rw[h2] at hu;cases hu;exact resP_err l m _ _ h2
    |ok t=>rw[h2] at hu;cases hu
   cases hu;exact .inl rfl
  have al:∀(L:List (List Opd)),allOk (resP l m) L=.error e→e=21∨e=22:=by
   intro L;induction L with
   |nil=>intro h;cases h
   |cons x r ih =>
    intro h;unfold allOk at h;cases h2:resP l m x with
    |error e'=>rw[h2] at h;cases h;exact resP_err l m _ _ h2
    |ok t =>
     rw[h2] at h;simp only at h;cases h3:allOk (resP l m) r with
     |error e'=>rw[h3] at h;cases h;exact ih h3
     |ok ts=>rw[h3] at h;cases h
  split at h
  ·cases h;exact .inl rfl
  unfold resBody at h;split at h
  ·cases h
  split at h
  ·cases h;exact .inr rfl
  split at h
  ·exact un _ _ _ h
  split at h
  ·exact un _ _ _ h
  split at h
  ·cases h;exact .inr rfl
  unfold binT at h;cases h2:allOk (resP l m) (segs s 0 ((low l s).at_++[s.length])) with
  |error e'=>rw[h2] at h;cases h;exact al _ h2
  |ok ts=>rw[h2] at h;cases h
theorem resolved_size{l:List Op}{s:List Opd}(hs:s.length≠0)(h:(resolved l s).2=0):(resolved l s).1.size≤wsum s∧(resolved l s).1.wf=0:=by
 unfold resolved at h ⊢;split at h
 ·simp at h
 split at h
 ·simp at h
 split at h
 ·simp at h
 rename_i h1 h2 h3;rw[if_neg h1,if_neg h2,if_neg h3];split at h
 ·rename_i hl;rw[if_pos hl];split at h
  ·simp at h
  rename_i ha;rw[if_neg ha]
  match s,hl with
  |[x],_ =>
   simp only[List.getD_cons_zero] at ha ⊢;refine⟨by simp[wsum],?_⟩;have e1:x.tree.wf≠1:=fun e=>h2 (by simp[e,ha]);have e2:x.tree.wf≠2:=fun e=>h3 (by simp[e,ha]);unfold Raw.wf at e1 e2 ⊢;split at e1
   ·simp at e1
   rename_i q1;rw[if_neg q1] at e2 ⊢;split at e2
   ·simp at e2
   rename_i q2;rw[if_neg q2]
 rename_i hl;rw[if_neg hl];cases hr:resP l s.length s with
 |error e =>
  rw[hr] at h;simp only at h;have:=resP_err l s.length s e hr;omega
 |ok t =>
  rw[hr] at h;simp only at h ⊢;split at h
  ·rename_i hw;rw[if_pos hw];exact⟨resP_size l _ s t hr,hw⟩
  simp at h
def OpdB(p:PE)(g:Nat→PR (Option Opd)):Prop:=(∀k x k',g k=.ok (some x) k'→k<k'∧k'≤p.toks.length∧x.tree.size+2≤3*(k'-k))∧∀k k',g k=.ok none k'→k'=k
theorem opdsG_b{p:PE}{g:Nat→PR (Option Opd)}(hg:OpdB p g):∀(m k:Nat)(acc s:List Opd)(k':Nat),opdsG g m k acc=.ok s k'→k≤k'∧(k≤p.toks.length→k'≤p.toks.length)∧wsum s≤wsum acc+3*(k'-k)∧acc.length≤s.length∧s.length≤acc.length+(k'-k)
 |0,k,acc,s,k',h=>by simp[opdsG] at h
 |m+1,k,acc,s,k',h=>by
  unfold opdsG at h;cases hr:g k with
  |out=>rw[hr] at h;cases h
  |err e a=>rw[hr] at h;cases h
  |ok o k1 =>
   rw[hr] at h;cases o with
   |none =>
    cases h;exact⟨Nat.le_refl _,id,by omega,Nat.le_refl _,by omega⟩
   |some x =>
    simp only at h;obtain⟨b1,b2,b3⟩:=hg.1 k x k1 hr;obtain⟨c1,c2,c3,c4,c5⟩:=opdsG_b hg m k1 _ s k' h;rw[wsum_app] at c3;simp only[wsum,List.length_append,List.length_cons,List.length_nil] at c3 c4 c5;refine⟨by omega,fun _=>c2 b2,?_,by omega,by omega⟩;omega
theorem exprG_b{p:PE}{g:Nat→PR (Option Opd)}(hg:OpdB p g){k k':Nat}{t:Raw}(h:p.exprG g k=.ok t k'):k<k'∧k'≤max k p.toks.length∧t.size≤3*(k'-k)∧t.wf=0:=by
 unfold PE.exprG at h;obtain⟨s,k1,h1,h2⟩:=PR.then_ok h;obtain⟨b1,b2,b3,b4,b5⟩:=opdsG_b hg _ _ _ _ _ h1;split at h2
 ·exact(p.unexp_ok h2).elim
 rename_i hz;split at h2
 ·cases h2
 rename_i he;cases h2;have he0:(resolved p.ops s).2=0:=Decidable.byContradiction he;obtain⟨c1,c2⟩:=resolved_size hz he0;simp only[wsum,List.length_nil] at b3 b5;refine⟨by omega,?_,by omega,c2⟩;rcases Nat.lt_or_ge p.toks.length k with hk | hk
 ·exfalso;unfold opdsG at h1;cases hr:g k with
  |out=>rw[hr] at h1;cases h1
  |err e a=>rw[hr] at h1;cases h1
  |ok o k2 =>
   rw[hr] at h1;cases o with
   |none=>cases h1;simp at hz
   |some x=>have:=hg.1 k x k2 hr;omega
 have:=b2 hk;omega
theorem parG_b{p:PE}{g:Nat→PR (Option Opd)}(hg:OpdB p g){k k':Nat}{x:Opd}(h:p.parG g k=.ok x k'):k<k'∧k'≤p.toks.length∧x.tree.size+2≤3*(k'-k)∧x.closed=true:=by
 unfold PE.parG at h;obtain⟨t,k1,h1,h⟩:=PR.then_ok h;obtain⟨u,k2,h2,h⟩:=PR.then_ok h;obtain⟨_,k3,h3,h⟩:=PR.then_ok h;cases h;obtain⟨a1,a2,a3,_⟩:=exprG_b hg h1;obtain⟨b1,b2,_⟩:=p.punct_ok h3;subst b2;split at h2
 ·rename_i hi;obtain⟨v,k4,h4,h2⟩:=PR.then_ok h2;cases h2;obtain⟨c1,c2,c3,_⟩:=exprG_b hg h4;refine⟨by omega,by omega,?_,rfl⟩;simp only[Raw.size,Raw.sizes];omega
 cases h2;refine⟨by omega,by omega,?_,rfl⟩;show t.size+2≤_;omega
theorem bindG_b{p:PE}{g:Nat→PR (Option Opd)}(hg:OpdB p g){kind:Int}{end_:List UInt8}{k k':Nat}{x:Opd}(h:p.bindG g kind end_ k=.ok x k'):k<k'∧k'≤p.toks.length∧x.tree.size+2≤3*(k'-k)∧x.closed=true:=by
 unfold PE.bindG at h;obtain⟨n,k1,h1,h⟩:=PR.then_ok h;obtain⟨l,k2,h2,h⟩:=PR.then_ok h;obtain⟨_,k3,h3,h⟩:=PR.then_ok h;obtain⟨u,k4,h4,h⟩:=PR.then_ok h;cases h;obtain⟨a1,a2⟩:=p.bindN_ok h1;obtain⟨b1,b2,_⟩:=p.punct_ok h3;obtain⟨c1,c2,c3,_⟩:=exprG_b hg h4;subst a2 b2;split at h2
 ·rename_i hi;obtain⟨v,k5,h5,h2⟩:=PR.then_ok h2;cases h2;obtain⟨d1,d2,d3,_⟩:=exprG_b hg h5;refine⟨by omega,by omega,?_,rfl⟩;simp only[List.cons_append,List.nil_append,Raw.size,Raw.sizes];omega
 cases h2;refine⟨by omega,by omega,?_,rfl⟩;simp only[List.nil_append,Raw.size,Raw.sizes];omega
theorem leaf_b{p:PE}{k k':Nat}{kind:Int}{n:List UInt8}{o:Option Opd}(hk:(p.pk k).kind≠0)(h:p.leaf k kind n=.ok o k'):∃x,o=some x∧k<k'∧k'≤p.toks.length∧x.tree.size+2≤3*(k'-k):=by
 unfold PE.leaf at h;have:=p.pk_lt hk;cases h;exact⟨_,rfl,by omega,by omega,by simp[Raw.size,Raw.sizes]⟩
theorem opdG_b{p:PE}{g:Nat→PR (Option Opd)}(hg:OpdB p g):OpdB p (p.opdG g):=by
 have key:∀k o k',p.opdG g k=.ok o k'→(o=none∧k'=k)∨∃x,o=some x∧k<k'∧k'≤p.toks.length∧x.tree.size+2≤3*(k'-k):=by
  intro k o k' h;unfold PE.opdG at h;have sm:∀{r:PR Opd},r.opt=.ok o k'→∃x,o=some x∧r=.ok x k':=by
   intro r h;unfold PR.opt at h;obtain⟨x,k1,h1,h2⟩:=PR.then_ok h;cases h2;exact⟨x,rfl,h1⟩
  split at h
  ·rename_i hk;split at h
   ·exact .inr (leaf_b (by omega) h)
   split at h
   ·exact .inr (leaf_b (by omega) h)
   cases h;exact .inl ⟨rfl,rfl⟩
  split at h
  ·cases h;exact .inl ⟨rfl,rfl⟩
  rename_i hk2;have hk2:(p.pk k).kind≠0:=by omega
  split at h
  ·exact .inr (leaf_b hk2 h)
  split at h
  ·exact .inr (leaf_b hk2 h)
  split at h
  ·exact .inr (leaf_b hk2 h)
  split at h
  ·obtain⟨x,e,h⟩:=sm h;have:=parG_b hg h;exact .inr ⟨x,e,this.1,this.2.1,this.2.2.1⟩
  split at h
  ·obtain⟨x,e,h⟩:=sm h;have:=bindG_b hg h;exact .inr ⟨x,e,this.1,this.2.1,this.2.2.1⟩
  split at h
  ·obtain⟨x,e,h⟩:=sm h;have:=bindG_b hg h;exact .inr ⟨x,e,this.1,this.2.1,this.2.2.1⟩
  cases h;exact .inl ⟨rfl,rfl⟩
 refine⟨fun k x k' h=>?_,fun k k' h=>?_⟩
 ·rcases key k _ k' h with⟨e,_⟩ | ⟨y,e,r⟩
  ·cases e
  cases e;exact r
 rcases key k _ k' h with⟨_,e⟩ | ⟨y,e,_⟩
 ·exact e
 cases e
theorem opdF_b(p:PE):∀f,OpdB p (p.opdF f)
 |0=>⟨fun _ _ _ h=>by simp[PE.opdF] at h,fun _ _ h=>by simp[PE.opdF] at h⟩
 |f+1=>opdG_b (opdF_b p f)
end Lfc
namespace Lfc
theorem PE.unexp_ne{α:Type}(p:PE)(k:Nat):(p.unexp k:PR α)≠.out:=by
 unfold PE.unexp;split <;> simp
theorem PR.then_ne_out{α β:Type}{r:PR α}{f:α→Nat→PR β}(h:r≠.out)(hf:∀x k,r=.ok x k→f x k≠.out):r.then f≠.out:=by
 cases r with
 |out=>exact absurd rfl h
 |err e a=>simp[PR.then]
 |ok x k=>exact hf x k rfl
theorem opdsG_ne{p:PE}{g:Nat→PR (Option Opd)}(hg:OpdB p g):∀(m k:Nat)(acc:List Opd),(∀k',k≤k'→g k'≠.out)→p.toks.length<m+k→0<m→opdsG g m k acc≠.out
 |0,_,_,_,_,h=>absurd h (by omega)
 |m+1,k,acc,hne,hm,_=>by
  unfold opdsG;cases hr:g k with
  |out=>exact absurd hr (hne k (Nat.le_refl _))
  |err e a=>simp
  |ok o k' =>
   cases o with
   |none=>simp
   |some x =>
    obtain⟨h1,h2,_⟩:=hg.1 k x k' hr;simp only;exact opdsG_ne hg m k' _ (fun j hj=>hne j (by omega)) (by omega) (by omega)
theorem exprG_ne{p:PE}{g:Nat→PR (Option Opd)}(hg:OpdB p g){k:Nat}(hne:∀k',k≤k'→g k'≠.out):p.exprG g k≠.out:=by
 unfold PE.exprG;refine PR.then_ne_out (opdsG_ne hg _ _ _ hne (by omega) (by omega)) (fun s k' _=>?_);split
 ·exact p.unexp_ne _
 split <;> simp
theorem punct_ne(p:PE)(k:Nat)(s:List UInt8):p.punct k s≠.out:=by
 unfold PE.punct;split
 ·simp
 exact p.unexp_ne _
theorem name_neo(p:PE)(k:Nat):p.name k≠.out:=by
 unfold PE.name;split
 ·simp
 exact p.unexp_ne _
theorem bindN_ne(p:PE)(k:Nat):p.bindN k≠.out:=by
 unfold PE.bindN;split
 ·simp
 exact name_neo p k
theorem parG_ne{p:PE}{g:Nat→PR (Option Opd)}(hg:OpdB p g){k:Nat}(hne:∀k',k<k'→g k'≠.out):p.parG g k≠.out:=by
 unfold PE.parG;refine PR.then_ne_out (exprG_ne hg fun k' h=>hne k' (by omega)) (fun t k1 h1=>?_);have hk1:=(exprG_b hg h1).1;refine PR.then_ne_out ?_ (fun u k2 _=>PR.then_ne_out (punct_ne p _ _) (fun _ _ _=>by simp));split
 ·exact PR.then_ne_out (exprG_ne hg fun k' h=>hne k' (by omega)) (fun _ _ _=>by simp)
 simp
theorem bindG_ne{p:PE}{g:Nat→PR (Option Opd)}(hg:OpdB p g){k:Nat}(hne:∀k',k<k'→g k'≠.out)(kd:Int)(e:List UInt8):p.bindG g kd e k≠.out:=by
 unfold PE.bindG;refine PR.then_ne_out (bindN_ne p _) (fun n k1 h1=>?_);have hk1:=(p.bindN_ok h1).2;have hx:(if p.is k1 2 [58] then(p.exprG g (k1+1)).then fun u k2=>(.ok [u] k2:PR (List Raw)) else .ok [] k1)≠.out:=by
  split
  ·exact PR.then_ne_out (exprG_ne hg fun k' h=>hne k' (by omega)) (fun _ _ _=>by simp)
  simp
 refine PR.then_ne_out hx (fun l k2 h2=>?_);have hk2:k1≤k2:=by
  split at h2
  ·obtain⟨u,k5,h5,h6⟩:=PR.then_ok h2;cases h6;have:=(exprG_b hg h5).1;omega
  cases h2;omega
 refine PR.then_ne_out (punct_ne p _ _) (fun _ k3 h3=>?_);have:=(p.punct_ok h3).2.1;exact PR.then_ne_out (exprG_ne hg fun k' h=>hne k' (by omega)) (fun _ _ _=>by simp)
theorem opt_ne{r:PR Opd}(h:r≠.out):r.opt≠.out:=PR.then_ne_out h (fun _ _ _=>by simp)
theorem leaf_ne(p:PE)(k:Nat)(kd:Int)(n:List UInt8):p.leaf k kd n≠.out:=by simp[PE.leaf]
theorem opdF_ne(p:PE):∀f k,p.toks.length-k<f→p.opdF f k≠.out
 |0,_,h=>absurd h (by omega)
 |f+1,k,h=>by
  rw[PE.opdF];unfold PE.opdG;rcases Nat.lt_or_ge k p.toks.length with hk | hk
  ·have hg:=opdF_b p f;have hne:∀k',k<k'→p.opdF f k'≠.out:=fun k' hk'=>opdF_ne p f k' (by omega);repeat' split
   all_goals first | exact leaf_ne _ _ _ _ | exact opt_ne (parG_ne hg hne) | exact opt_ne (bindG_ne hg hne _ _) | simp
  have:p.pk k=⟨0,[],p.fin⟩:=by
   unfold PE.pk;rw[List.getD_eq_getElem?_getD,List.getElem?_eq_none hk];rfl
  rw[this];simp
theorem expr_ne(p:PE)(k:Nat):p.expr k≠.out:=exprG_ne (opdF_b p _) (fun k' _=>opdF_ne p _ k' (by omega))
theorem opdF_args(p:PE):∀f k x k',p.opdF f k=.ok (some x) k'→x.closed=false→x.tree.args=[]
 |0,_,_,_,h,_=>by cases h
 |f+1,k,x,k',h,hc=>by
  rw[PE.opdF] at h;unfold PE.opdG at h;have lf:∀{kd:Int}{n:List UInt8},p.leaf k kd n=.ok (some x) k'→x.tree.args=[]:=by
   intro kd n h;unfold PE.leaf at h;cases h;rfl
  have op:∀{r:PR Opd},r.opt=.ok (some x) k'→r=.ok x k':=by
   intro r h;unfold PR.opt at h;obtain⟨y,k1,h1,h2⟩:=PR.then_ok h;cases h2;exact h1
  have hg:=opdF_b p f;repeat' split at h
  all_goals first
   |exact lf h
   |(have:=(parG_b hg (op h)).2.2.2;rw[this] at hc;cases hc)
   |(have:=(bindG_b hg (op h)).2.2.2;rw[this] at hc;cases hc)
   |(cases h;done)
end Lfc
namespace Lfc
inductive Ord where
 |node (kind arg:Int) (parts:List Ord)
mutual
def Ord.size:Ord→Nat
 |.node _ _ ps=>Ord.sizes ps+1
def Ord.sizes:List Ord→Nat
 |[]=>0
 |a :: r=>Ord.size a+Ord.sizes r
end
mutual
def Ord.cnt:Ord→Int→Int
 |.node _ _ ps,lim=>Ord.cnts ps lim 1
def Ord.cnts:List Ord→Int→Int→Int
 |[],_,n=>n
 |a :: r,lim,n=>if lim<n then n else Ord.cnts r lim (n+Ord.cnt a (lim-n))
end
mutual
def Ord.form:Ord→Bool
 |.node k a ps=>if k=1 then decide (ps.length=0) else if k=2∨k=3 then decide (a=0) && decide (0<ps.length) && Ord.forms ps else false
def Ord.forms:List Ord→Bool
 |[]=>true
 |a :: r=>Ord.form a && Ord.forms r
end
mutual
def Ord.mod(b:Int):Ord→Bool
 |.node _ a ps=>decide (-b≤a) && decide (a≤b) && Ord.mods b ps
def Ord.mods(b:Int):List Ord→Bool
 |[]=>true
 |a :: r=>Ord.mod b a && Ord.mods b r
end
theorem Ord.sizes_app(a b:List Ord):Ord.sizes (a++b)=Ord.sizes a+Ord.sizes b:=by
 induction a with
 |nil=>simp[Ord.sizes]
 |cons x r ih=>simp only[List.cons_append,Ord.sizes,ih];omega
theorem Ord.size_pos(t:Ord):1≤t.size:=by cases t;simp[Ord.size]
theorem Ord.sizes_len(l:List Ord):l.length≤Ord.sizes l:=by
 induction l with
 |nil=>simp[Ord.sizes]
 |cons a r ih=>have:=a.size_pos;simp only[Ord.sizes,List.length_cons];omega
theorem Ord.sizes_mem(l:List Ord)(t:Ord)(h:t∈l):t.size≤Ord.sizes l:=by
 induction l with
 |nil=>cases h
 |cons a r ih =>
  simp only[Ord.sizes];rcases List.mem_cons.1 h with rfl | h
  ·omega
  have:=ih h;omega
theorem Ord.sizes_take(ts:List Ord)(k:Nat)(h:k<ts.length):Ord.sizes (ts.take (k+1))=Ord.sizes (ts.take k)+ts[k].size:=by
 rw[List.take_succ_eq_append_getElem h,Ord.sizes_app];simp[Ord.sizes]
theorem Ord.sizes_take_le(ts:List Ord)(k:Nat):Ord.sizes (ts.take k)≤Ord.sizes ts:=by
 have:Ord.sizes ts=Ord.sizes (ts.take k)+Ord.sizes (ts.drop k):=by rw[←Ord.sizes_app,List.take_append_drop]
 omega
end Lfc
namespace Lfc
mutual
def Raw.strip:Raw→Raw
 |.node k n _ as=>.node k n 0 (Raw.strips as)
def Raw.strips:List Raw→List Raw
 |[]=>[]
 |t :: r=>t.strip :: Raw.strips r
end
mutual
theorem strip_facts:∀t:Raw,t.strip.size=t.size∧t.strip.depth=t.depth∧t.strip.form=t.form
 |.node k n p as=>by
  obtain⟨h1,h2,h3,h4⟩:=strips_facts as;simp only[Raw.strip,Raw.size,Raw.depth,Raw.form,h1,h2,h3,h4,and_self]
theorem strips_facts:∀l:List Raw,Raw.sizes (Raw.strips l)=Raw.sizes l∧Raw.depths (Raw.strips l)=Raw.depths l∧Raw.forms (Raw.strips l)=Raw.forms l∧(Raw.strips l).length=l.length
 |[]=>⟨rfl,rfl,rfl,rfl⟩
 |t :: r=>by
  obtain⟨a1,a2,a3⟩:=strip_facts t;obtain⟨h1,h2,h3,h4⟩:=strips_facts r;simp only[Raw.strips,Raw.sizes,Raw.depths,Raw.forms,List.length_cons,a1,a2,a3,h1,h2,h3,h4,and_self]
end
mutual
theorem same_strip:∀a b:Raw,Raw.same false a b=true↔a.strip=b.strip
 |.node k n p as,.node k' n' p' bs=>by
  simp only[Raw.same,Raw.strip,Raw.node.injEq,Bool.and_eq_true,decide_eq_true_eq,sames_strip as bs,Bool.false_and,Bool.not_false,Bool.not_true,Bool.or_false,Bool.false_or,true_and,and_true];simp[and_assoc]
theorem sames_strip:∀a b:List Raw,Raw.sames false a b=true↔Raw.strips a=Raw.strips b
 |[],[]=>by simp[Raw.sames,Raw.strips]
 |[],_ :: _=>by simp[Raw.sames,Raw.strips]
 |_ :: _,[]=>by simp[Raw.sames,Raw.strips]
 |a :: r,b :: q=>by simp[Raw.sames,Raw.strips,same_strip a b,sames_strip r q]
end
def Opd.strip(x:Opd):Opd:=⟨x.tree.strip,x.closed⟩
end Lfc
