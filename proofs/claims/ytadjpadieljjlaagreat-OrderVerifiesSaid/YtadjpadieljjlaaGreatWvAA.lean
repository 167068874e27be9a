/- Parts of the proof that no input makes the law false: Plain, RawPlain, TmP, TmNodesP, OrP, OcP. -/
set_option linter.unusedVariables false
set_option linter.unusedSimpArgs false
set_option maxRecDepth 100000
set_option maxHeartbeats 32000000
namespace Lfc
def blankB(c:UInt8):Bool:=decide (c.toNat=32∨c.toNat=9∨c.toNat=10∨c.toNat=13)
def letterB(c:UInt8):Bool:=decide (97≤c.toNat∧c.toNat≤122)
def specialB(c:UInt8):Bool:=decide (c.toNat=40∨c.toNat=41∨c.toNat=91∨c.toNat=93∨c.toNat=123∨c.toNat=125∨c.toNat=58∨c.toNat=46)
def nameB(c:UInt8):Bool:=decide ((33≤c.toNat∧c.toNat≤126)∧¬(c.toNat=40∨c.toNat=41∨c.toNat=91∨c.toNat=93∨c.toNat=123∨c.toNat=125∨c.toNat=58∨c.toNat=46)∧¬c.toNat=37)
def notNlB(c:UInt8):Bool:=decide (¬c.toNat=10)
def reservedB(l:List UInt8):Bool:=l == [45,62] || l == [60,45] || l == [61] || l == [95] || l == [116,121,112,101]
def runLen(p:UInt8→Bool):List UInt8→Nat
 |[]=>0
 |c :: r=>if p c then runLen p r+1 else 0
def cmt:Nat→List UInt8→Option (List UInt8)
 |d,a :: b :: r =>
  if a.toNat=37∧b.toNat=123 then cmt (d+1) r
  else if a.toNat=125∧b.toNat=37 then(if d≤1 then some r else cmt (d-1) r)
  else cmt d (b :: r)
 |_,_=>none
structure Nx where
 kind:Int
 text:List UInt8
 len:Nat
 err:Int
def pc(r:List UInt8):Nx :=
 match r with
 |[]=>⟨0,[],1,0⟩
 |b :: r' =>
  if b.toNat=123 then
   match cmt 1 r' with
   |some rest=>⟨0,[],2+r'.length-rest.length,0⟩
   |none=>⟨0,[],0,11⟩
  else if runLen letterB (b :: r')=0 then⟨0,[],runLen notNlB (b :: r')+1,0⟩
  else if 64<runLen letterB (b :: r') then⟨0,[],0,12⟩
  else⟨3,(b :: r').take (runLen letterB (b :: r')),runLen letterB (b :: r')+1,0⟩
def nm(word:List UInt8):Nx :=
 if 64<word.length then⟨0,[],0,12⟩ else⟨if reservedB word then 2 else 1,word,word.length,0⟩
def nx:List UInt8→Nx
 |[]=>⟨0,[],0,10⟩
 |c :: r =>
  if blankB c then⟨0,[],1,0⟩
  else if c.toNat=37 then pc r
  else if nameB c then nm ((c :: r).take (runLen nameB (c :: r)))
  else if specialB c then⟨2,[c],1,0⟩
  else⟨0,[],0,10⟩
structure Tok where
 kind:Int
 text:List UInt8
 pos:Nat
def lexF:Nat→Nat→List UInt8→List Tok→List Tok × Int × Nat
 |0,n,_,acc=>(acc,0,n)
 |_+1,n,[],acc=>(acc,0,n)
 |f+1,n,c :: r,acc =>
  if (nx (c :: r)).err≠0 then([],(nx (c :: r)).err,n)
  else if (nx (c :: r)).kind=0 then lexF f (n+(nx (c :: r)).len) ((c :: r).drop (nx (c :: r)).len) acc
  else if acc.length=20000 then([],7,n)
  else lexF f (n+(nx (c :: r)).len) ((c :: r).drop (nx (c :: r)).len) (acc++[⟨(nx (c :: r)).kind,(nx (c :: r)).text,n⟩])
def lex(l:List UInt8):List Tok × Int × Nat:=if 65536<l.length then([],12,0) else lexF l.length 0 l []
def isName(l:List UInt8):Bool:=decide (¬l=[]) && decide (l.length≤64) && decide (runLen nameB l=l.length) && !reservedB l && decide (¬(l.headD 0).toNat=64)
theorem runLen_le(p:UInt8→Bool)(l:List UInt8):runLen p l≤l.length:=by
 induction l with
 |nil=>simp[runLen]
 |cons c r ih=>simp only[runLen,List.length_cons];split <;> omega
end Lfc
namespace Lfc
inductive Raw where
 |node (kind:Int) (name:List UInt8) (pos:Int) (args:List Raw)
def Raw.kind:Raw→Int | .node k _ _ _=>k
def Raw.name:Raw→List UInt8 | .node _ n _ _=>n
def Raw.pos:Raw→Int | .node _ _ p _=>p
def Raw.args:Raw→List Raw | .node _ _ _ as=>as
mutual
def Raw.size:Raw→Nat
 |.node _ _ _ as=>Raw.sizes as+1
def Raw.sizes:List Raw→Nat
 |[]=>0
 |a :: r=>Raw.size a+Raw.sizes r
end
mutual
def Raw.depth:Raw→Nat
 |.node _ _ _ as=>Raw.depths as+1
def Raw.depths:List Raw→Nat
 |[]=>0
 |a :: r=>max (Raw.depth a) (Raw.depths r)
end
mutual
def Raw.same(at_:Bool):Raw→Raw→Bool
 |.node k n p as,.node k' n' p' as'=>decide (k=k') && decide (n=n') && (!at_ || decide (p=p')) && Raw.sames at_ as as'
def Raw.sames(at_:Bool):List Raw→List Raw→Bool
 |[],[]=>true
 |a :: r,a' :: r'=>Raw.same at_ a a' && Raw.sames at_ r r'
 |_,_=>false
end
def formed(k:Int)(n:List UInt8)(m:Nat):Bool :=
 if k=1∨k=2 then isName n && decide (m=0)
 else if k=3∨k=4 then decide (n=[]) && decide (m=0)
 else if k=5∨k=6∨k=9 then decide (n=[]) && decide (m=2)
 else if k=7∨k=8 then(isName n || decide (n=[95])) && (decide (m=1) || decide (m=2))
 else false
mutual
def Raw.form:Raw→Bool
 |.node k n _ as=>formed k n as.length && Raw.forms as
def Raw.forms:List Raw→Bool
 |[]=>true
 |a :: r=>Raw.form a && Raw.forms r
end
def Raw.wf(t:Raw):Int:=if !t.form then 1 else if 4096<t.size∨128<t.depth then 2 else 0
theorem Raw.sizes_app(a b:List Raw):Raw.sizes (a++b)=Raw.sizes a+Raw.sizes b:=by
 induction a with
 |nil=>simp[Raw.sizes]
 |cons x r ih=>simp only[List.cons_append,Raw.sizes,ih];omega
theorem Raw.depths_app(a b:List Raw):Raw.depths (a++b)=max (Raw.depths a) (Raw.depths b):=by
 induction a with
 |nil=>simp[Raw.depths]
 |cons x r ih=>simp only[List.cons_append,Raw.depths,ih];omega
theorem Raw.size_pos(t:Raw):1≤t.size:=by cases t;simp[Raw.size]
theorem Raw.sizes_len(l:List Raw):l.length≤Raw.sizes l:=by
 induction l with
 |nil=>simp[Raw.sizes]
 |cons a r ih=>have:=a.size_pos;simp only[Raw.sizes,List.length_cons];omega
theorem Raw.sizes_mem(l:List Raw)(t:Raw)(h:t∈l):t.size≤Raw.sizes l:=by
 induction l with
 |nil=>cases h
 |cons a r ih =>
  simp only[Raw.sizes];rcases List.mem_cons.1 h with rfl | h
  ·omega
  have:=ih h;omega
theorem Raw.depth_le_size(n:Nat):∀(t:Raw),t.size≤n→t.depth≤t.size:=by
 induction n with
 |zero=>intro t h;have:=t.size_pos;omega
 |succ n ih =>
  intro t h;obtain⟨k,nm,p,as⟩:=t;simp only[Raw.size,Raw.depth] at h ⊢;have:∀(l:List Raw),Raw.sizes l≤n→Raw.depths l≤Raw.sizes l:=by
   intro l;induction l with
   |nil=>intro _;simp[Raw.depths,Raw.sizes]
   |cons a r ihl =>
    intro hl;simp only[Raw.sizes,Raw.depths] at hl ⊢;have h1:=ih a (by omega);have h2:=ihl (by omega);omega
  have:=this as (by omega);omega
end Lfc
namespace Lfc
def tbound(n:List UInt8)(p:Int)(m k:Nat):Bool:=decide (p=0) && decide (m=k) && (decide (n=[]) || decide (n=[95]) || isName n)
mutual
def Raw.obj:Raw→Bool
 |.node k n p as =>
  if k=3 then tbound n p as.length 1 && Raw.objs as
  else if k=4 then isName n && decide (p=0) && Raw.objs as
  else if k=5 then decide (n=[]) && decide (0≤p) && decide (p≤1048576) && Raw.objs as
  else if k=6 then decide (n=[]) && decide (0≤p) && decide (p<2048) && Raw.objs as
  else false
def Raw.objs:List Raw→Bool
 |[]=>true
 |a :: r=>Raw.obj a && Raw.objs r
end
def Raw.atm:Raw→Bool
 |.node k n p as=>decide (k=4) && isName n && decide (p=0) && Raw.objs as
mutual
def Raw.typ:Raw→Bool
 |.node k n p as=>(decide (k=4) && isName n && decide (p=0) && Raw.objs as) || (decide (k=2) && tbound n p as.length 2 && Raw.typs as)
def Raw.typs:List Raw→Bool
 |[]=>true
 |a :: r=>Raw.typ a && Raw.typs r
end
mutual
def Raw.knd:Raw→Bool
 |.node k n p as=>if k=1 then decide (n=[]) && decide (p=0) && decide (as.length=0) else decide (k=2) && tbound n p as.length 2 && Raw.knds as
def Raw.knds:List Raw→Bool
 |[]=>true
 |[b]=>Raw.knd b
 |a :: r=>Raw.typ a && Raw.knds r
end
def Raw.small(t:Raw):Bool:=decide (t.size≤4096) && decide (t.depth≤128)
def Raw.twf(t:Raw):Int:=if !t.obj && !t.typ && !t.knd then 1 else if !t.small then 2 else 0
theorem objs_spec:∀(ts:List Raw),Raw.objs ts=true↔∀k(h:k<ts.length),ts[k].obj=true
 |[]=>by simp[Raw.objs]
 |a :: r=>by
  rw[Raw.objs,Bool.and_eq_true,objs_spec r];constructor
  ·rintro⟨h1,h2⟩ k h;cases k with
   |zero=>exact h1
   |succ k=>exact h2 k (by simpa using h)
  intro h;exact⟨h 0 (by simp),fun k hk=>h (k+1) (by simpa using hk)⟩
theorem objs_false(ts:List Raw)(k:Nat)(h:k<ts.length)(hf:ts[k].obj=false):Raw.objs ts=false:=by
 cases hs:Raw.objs ts
 ·rfl
 rw[(objs_spec ts).1 hs k h] at hf;cases hf
theorem atm_node(k p:Int)(n:List UInt8)(as:List Raw):Raw.atm (.node k n p as)=(decide (k=4) && isName n && decide (p=0) && Raw.objs as):=rfl
theorem typ_node(k p:Int)(n:List UInt8)(as:List Raw):Raw.typ (.node k n p as)=(Raw.atm (.node k n p as) || (decide (k=2) && tbound n p as.length 2 && Raw.typs as)):=by rw[Raw.typ,atm_node]
end Lfc
namespace Lfc
def under(k:Int)(i:Nat):Nat:=if k=3∨(k=2∧i=1) then 1 else 0
mutual
def Raw.nodes(d:Nat):Raw→List (Nat × Raw)
 |.node k n p as=>(d,.node k n p as) :: Raw.nodesL d k 0 as
def Raw.nodesL(d:Nat)(k:Int)(i:Nat):List Raw→List (Nat × Raw)
 |[]=>[]
 |a :: r=>Raw.nodes (d+under k i) a++Raw.nodesL d k (i+1) r
end
theorem nodesL_app(d:Nat)(k:Int):∀(a b:List Raw)(i:Nat),Raw.nodesL d k i (a++b)=Raw.nodesL d k i a++Raw.nodesL d k (i+a.length) b
 |[],b,i=>by simp[Raw.nodesL]
 |x :: a,b,i=>by
  rw[List.cons_append,Raw.nodesL,Raw.nodesL,nodesL_app d k a b (i+1),List.append_assoc,List.length_cons,show i+1+a.length=i+(a.length+1) by omega]
theorem nodesL_take(d:Nat)(k:Int)(ts:List Raw)(j:Nat)(h:j<ts.length):Raw.nodesL d k 0 (ts.take (j+1))=Raw.nodesL d k 0 (ts.take j)++Raw.nodes (d+under k j) ts[j]:=by
 rw[List.take_succ_eq_append_getElem h,nodesL_app];simp[Raw.nodesL,List.length_take,Nat.min_eq_left (Nat.le_of_lt h)]
theorem nodesL_pre(d:Nat)(k:Int)(ts:List Raw)(j:Nat):Raw.nodesL d k 0 (ts.take j) <+: Raw.nodesL d k 0 ts:=by
 refine⟨Raw.nodesL d k (0+(ts.take j).length) (ts.drop j),?_⟩;rw[←nodesL_app,List.take_append_drop]
theorem nodes_mem(d:Nat)(k p:Int)(n:List UInt8)(ts:List Raw)(j:Nat)(h:j<ts.length)(y:Nat × Raw)(hy:y∈Raw.nodes (d+under k j) ts[j]):y∈Raw.nodes d (.node k n p ts):=by
 rw[Raw.nodes];refine List.mem_cons_of_mem _ ((nodesL_pre d k ts (j+1)).subset ?_);rw[nodesL_take d k ts j h];exact List.mem_append_right _ hy
theorem nodes_len(m:Nat):∀(t:Raw)(d:Nat),t.size≤m→(Raw.nodes d t).length=t.size:=by
 induction m with
 |zero=>intro t d h;have:=t.size_pos;omega
 |succ m ih =>
  intro t d h;obtain⟨k,n,p,ts⟩:=t;simp only[Raw.size] at h;have hl:∀(l:List Raw)(i:Nat),Raw.sizes l≤m→(Raw.nodesL d k i l).length=Raw.sizes l:=by
   intro l;induction l with
   |nil=>intro i _;simp[Raw.nodesL,Raw.sizes]
   |cons a r ihl =>
    intro i hs;simp only[Raw.sizes] at hs;rw[Raw.nodesL,List.length_append,ih a _ (by omega),ihl _ (by omega),Raw.sizes]
  rw[Raw.nodes,List.length_cons,hl ts 0 (by omega),Raw.size]
theorem nodes_size(t:Raw)(d:Nat):(Raw.nodes d t).length=t.size:=nodes_len _ t d (Nat.le_refl _)
theorem nodesL_size(d:Nat)(k:Int):∀(l:List Raw)(i:Nat),(Raw.nodesL d k i l).length=Raw.sizes l
 |[],i=>by simp[Raw.nodesL,Raw.sizes]
 |a :: r,i=>by rw[Raw.nodesL,List.length_append,nodes_size,nodesL_size d k r,Raw.sizes]
theorem sizesTake(ts:List Raw)(k:Nat)(h:k<ts.length):Raw.sizes (ts.take k)+ts[k].size≤Raw.sizes ts:=by
 have h1:Raw.sizes ts=Raw.sizes (ts.take (k+1))+Raw.sizes (ts.drop (k+1)):=by rw[←Raw.sizes_app,List.take_append_drop]
 rw[List.take_succ_eq_append_getElem h,Raw.sizes_app] at h1;simp only[Raw.sizes] at h1;omega
end Lfc
namespace Lfc
end Lfc
namespace Lfc
inductive Ord where
 |node (kind arg:Int) (parts:List Ord)
mutual
def Ord.size:Ord→Nat
 |.node _ _ ps=>Ord.sizes ps+1
def Ord.sizes:List Ord→Nat
 |[]=>0
 |a :: r=>Ord.size a+Ord.sizes r
end
mutual
def Ord.cnt:Ord→Int→Int
 |.node _ _ ps,lim=>Ord.cnts ps lim 1
def Ord.cnts:List Ord→Int→Int→Int
 |[],_,n=>n
 |a :: r,lim,n=>if lim<n then n else Ord.cnts r lim (n+Ord.cnt a (lim-n))
end
mutual
def Ord.form:Ord→Bool
 |.node k a ps=>if k=1 then decide (ps.length=0) else if k=2∨k=3 then decide (a=0) && decide (0<ps.length) && Ord.forms ps else false
def Ord.forms:List Ord→Bool
 |[]=>true
 |a :: r=>Ord.form a && Ord.forms r
end
mutual
def Ord.rng(lo hi:Int):Ord→Bool
 |.node k a ps=>if k=1 then decide (lo≤a) && decide (a≤hi) else Ord.rngs lo hi ps
def Ord.rngs(lo hi:Int):List Ord→Bool
 |[]=>true
 |a :: r=>Ord.rng lo hi a && Ord.rngs lo hi r
end
mutual
def Ord.mv(n:Int):Ord→Ord
 |.node k a ps=>.node k (if k=1 then a+n else 0) (Ord.mvs n ps)
def Ord.mvs(n:Int):List Ord→List Ord
 |[]=>[]
 |a :: r=>Ord.mv n a :: Ord.mvs n r
end
mutual
def Ord.shp:Ord→Ord→Bool
 |.node k _ ps,.node k' _ ps'=>decide (k=k') && Ord.shps ps ps'
def Ord.shps:List Ord→List Ord→Bool
 |[],[]=>true
 |a :: r,a' :: r'=>Ord.shp a a' && Ord.shps r r'
 |_,_=>false
end
mutual
def Ord.mod(b:Int):Ord→Bool
 |.node _ a ps=>decide (-b≤a) && decide (a≤b) && Ord.mods b ps
def Ord.mods(b:Int):List Ord→Bool
 |[]=>true
 |a :: r=>Ord.mod b a && Ord.mods b r
end
def Ord.vld(o:Ord)(n:Int):Int:=if 64<o.size∨o.form=false then 92 else if o.rng 0 (n-1)=false then 5 else 0
theorem Ord.sizes_app(a b:List Ord):Ord.sizes (a++b)=Ord.sizes a+Ord.sizes b:=by
 induction a with
 |nil=>simp[Ord.sizes]
 |cons x r ih=>simp only[List.cons_append,Ord.sizes,ih];omega
theorem Ord.size_pos(t:Ord):1≤t.size:=by cases t;simp[Ord.size]
theorem Ord.sizes_len(l:List Ord):l.length≤Ord.sizes l:=by
 induction l with
 |nil=>simp[Ord.sizes]
 |cons a r ih=>have:=a.size_pos;simp only[Ord.sizes,List.length_cons];omega
theorem Ord.sizes_mem(l:List Ord)(t:Ord)(h:t∈l):t.size≤Ord.sizes l:=by
 induction l with
 |nil=>cases h
 |cons a r ih =>
  simp only[Ord.sizes];rcases List.mem_cons.1 h with rfl | h
  ·omega
  have:=ih h;omega
theorem Ord.sizes_take(ts:List Ord)(k:Nat)(h:k<ts.length):Ord.sizes (ts.take (k+1))=Ord.sizes (ts.take k)+ts[k].size:=by
 rw[List.take_succ_eq_append_getElem h,Ord.sizes_app];simp[Ord.sizes]
theorem Ord.sizes_take_le(ts:List Ord)(k:Nat):Ord.sizes (ts.take k)≤Ord.sizes ts:=by
 have:Ord.sizes ts=Ord.sizes (ts.take k)+Ord.sizes (ts.drop k):=by rw[←Ord.sizes_app,List.take_append_drop]
 omega
theorem cnt_spec(m:Nat):∀(o:Ord)(lim:Int),o.size≤m→0≤lim→1≤o.cnt lim∧o.cnt lim≤o.size∧((o.size:Int)≤lim→o.cnt lim=o.size)∧(lim<(o.size:Int)→lim<o.cnt lim):=by
 induction m with
 |zero=>intro o lim h;have:=o.size_pos;omega
 |succ m ih =>
  intro o lim h hl;obtain⟨k,a,ps⟩:=o;simp only[Ord.size] at h;have hs:∀(l:List Ord)(n:Int),Ord.sizes l≤m→1≤n→n≤Ord.cnts l lim n∧Ord.cnts l lim n≤n+(Ord.sizes l:Int)∧(n+(Ord.sizes l:Int)≤lim→Ord.cnts l lim n=n+(Ord.sizes l:Int))∧(lim<n+(Ord.sizes l:Int)→lim<Ord.cnts l lim n):=by
   intro l;induction l with
   |nil=>intro n _ _;simp[Ord.cnts,Ord.sizes]
   |cons p r ihr =>
    intro n hm hn;simp only[Ord.sizes] at hm ⊢;rw[Ord.cnts];by_cases hlt:lim<n
    ·rw[if_pos hlt];have:=p.size_pos;omega
    rw[if_neg hlt];obtain⟨c1,c2,c3,c4⟩:=ih p (lim-n) (by omega) (by omega);obtain⟨d1,d2,d3,d4⟩:=ihr (n+p.cnt (lim-n)) (by omega) (by omega);refine⟨by omega,by omega,fun hle=>?_,fun hgt=>?_⟩
    ·have e:=c3 (by omega);rw[e] at d3 ⊢;have:=d3 (by omega);omega
    by_cases hp:lim-n<(p.size:Int)
    ·have:=c4 hp;omega
    have e:=c3 (by omega);rw[e] at d4 ⊢;exact d4 (by omega)
  obtain⟨e1,e2,e3,e4⟩:=hs ps 1 (by omega) (by omega);rw[Ord.cnt,Ord.size];refine⟨by omega,by omega,fun h=>?_,fun h=>e4 (by omega)⟩;rw[e3 (by omega)];omega
theorem forms_specO:∀(ts:List Ord),Ord.forms ts=true↔∀k(h:k<ts.length),ts[k].form=true
 |[]=>by simp[Ord.forms]
 |a :: r=>by
  rw[Ord.forms,Bool.and_eq_true,forms_specO r];constructor
  ·rintro⟨h1,h2⟩ k h;cases k with
   |zero=>exact h1
   |succ k=>exact h2 k (by simpa using h)
  intro h;exact⟨h 0 (by simp),fun k hk=>h (k+1) (by simpa using hk)⟩
theorem forms_falseO(ts:List Ord)(k:Nat)(h:k<ts.length)(hf:ts[k].form=false):Ord.forms ts=false:=by
 cases hs:Ord.forms ts
 ·rfl
 rw[(forms_specO ts).1 hs k h] at hf;cases hf
theorem rngs_spec(lo hi:Int):∀(ts:List Ord),Ord.rngs lo hi ts=true↔∀k(h:k<ts.length),ts[k].rng lo hi=true
 |[]=>by simp[Ord.rngs]
 |a :: r=>by
  rw[Ord.rngs,Bool.and_eq_true,rngs_spec lo hi r];constructor
  ·rintro⟨h1,h2⟩ k h;cases k with
   |zero=>exact h1
   |succ k=>exact h2 k (by simpa using h)
  intro h;exact⟨h 0 (by simp),fun k hk=>h (k+1) (by simpa using hk)⟩
theorem rngs_false(lo hi:Int)(ts:List Ord)(k:Nat)(h:k<ts.length)(hf:ts[k].rng lo hi=false):Ord.rngs lo hi ts=false:=by
 cases hs:Ord.rngs lo hi ts
 ·rfl
 rw[(rngs_spec lo hi ts).1 hs k h] at hf;cases hf
theorem shps_spec:∀(ts us:List Ord),Ord.shps ts us=true↔ts.length=us.length∧∀k(h:k<ts.length)(h':k<us.length),Ord.shp ts[k] us[k]=true
 |[],[]=>by simp[Ord.shps]
 |[],_ :: _=>by simp[Ord.shps]
 |_ :: _,[]=>by simp[Ord.shps]
 |a :: r,b :: q=>by
  rw[Ord.shps,Bool.and_eq_true,shps_spec r q];constructor
  ·rintro⟨h1,h2,h3⟩;refine⟨by simp[h2],fun k h h'=>?_⟩;cases k with
   |zero=>exact h1
   |succ k=>exact h3 k (by simpa using h) (by simpa using h')
  rintro⟨h1,h2⟩;exact⟨h2 0 (by simp) (by simp),by simpa using h1,fun k h h'=>h2 (k+1) (by simpa using h) (by simpa using h')⟩
theorem shps_false(ts us:List Ord)(k:Nat)(h:k<ts.length)(h':k<us.length)(hf:Ord.shp ts[k] us[k]=false):Ord.shps ts us=false:=by
 cases hs:Ord.shps ts us
 ·rfl
 rw[((shps_spec ts us).1 hs).2 k h h'] at hf;cases hf
theorem shps_len(ts us:List Ord)(h:ts.length≠us.length):Ord.shps ts us=false:=by
 cases hs:Ord.shps ts us
 ·rfl
 exact absurd ((shps_spec ts us).1 hs).1 h
theorem mods_app(b:Int)(x y:List Ord):Ord.mods b (x++y)=(Ord.mods b x && Ord.mods b y):=by
 induction x with
 |nil=>simp[Ord.mods]
 |cons a r ih=>simp[Ord.mods,ih,Bool.and_assoc]
end Lfc
namespace Lfc
inductive Ods where
 |arg (i j:Nat)
 |lex (ps:List Ods)
 |sim (ps:List Ods)
section
variable (L W B:Nat→Nat→Prop)
mutual
def Ods.eq:Ods→Prop
 |.arg i j=>W i j∧B i j
 |.lex ps=>Ods.eqs ps
 |.sim ps=>Ods.eqs ps
def Ods.eqs:List Ods→Prop
 |[]=>True
 |p :: r=>Ods.eq p∧Ods.eqs r
end
mutual
def Ods.wk:Ods→Prop
 |.arg i j=>W i j
 |.lex ps=>Ods.eqs W B ps
 |.sim ps=>Ods.wks ps
def Ods.wks:List Ods→Prop
 |[]=>True
 |p :: r=>Ods.wk p∧Ods.wks r
end
mutual
def Ods.ls:Ods→Prop
 |.arg i j=>L i j
 |.lex ps=>Ods.lexL ps
 |.sim ps=>Ods.simL ps
def Ods.le:Ods→Prop
 |.arg i j=>W i j
 |.lex ps=>Ods.lexL ps∨Ods.eqs W B ps
 |.sim ps=>Ods.les ps
def Ods.lexL:List Ods→Prop
 |[]=>False
 |p :: r=>Ods.ls p∨(Ods.eq W B p∧Ods.lexL r)
def Ods.les:List Ods→Prop
 |[]=>True
 |p :: r=>Ods.le p∧Ods.les r
def Ods.simL:List Ods→Prop
 |[]=>False
 |p :: r=>(Ods.ls p∧Ods.les r)∨(¬Ods.ls p∧Ods.wk W B p∧Ods.simL r)
def Ods.anyL:List Ods→Prop
 |[]=>False
 |p :: r=>Ods.ls p∨Ods.anyL r
end
end
section
variable {L W B:Nat→Nat→Prop}
mutual
theorem ods_basic(hLW:∀i j,L i j→W i j):∀p:Ods,(Ods.ls L W B p→Ods.le L W B p)∧(Ods.eq W B p→Ods.le L W B p)∧(Ods.wk W B p→Ods.le L W B p)∧(¬Ods.ls L W B p→Ods.le L W B p→Ods.wk W B p)
 |.arg i j=>by
  simp only[Ods.ls,Ods.le,Ods.eq,Ods.wk];exact⟨hLW i j,fun h=>h.1,fun h=>h,fun _ h=>h⟩
 |.lex ps=>by
  simp only[Ods.ls,Ods.le,Ods.eq,Ods.wk];exact⟨.inl,.inr,.inr,fun h h'=>h'.resolve_left h⟩
 |.sim ps=>by
  simp only[Ods.ls,Ods.le,Ods.eq,Ods.wk];have h:=ods_basics hLW ps;refine⟨fun hs=>(h.1.1 hs).1,h.2.1,h.2.2.1,fun hn hl=>h.2.2.2 (fun ha=>hn (h.1.2 ⟨hl,ha⟩)) hl⟩
theorem ods_basics(hLW:∀i j,L i j→W i j):∀ps:List Ods,(Ods.simL L W B ps↔Ods.les L W B ps∧Ods.anyL L W B ps)∧(Ods.eqs W B ps→Ods.les L W B ps)∧(Ods.wks W B ps→Ods.les L W B ps)∧(¬Ods.anyL L W B ps→Ods.les L W B ps→Ods.wks W B ps)
 |[]=>by simp only[Ods.simL,Ods.les,Ods.anyL,Ods.eqs,Ods.wks];simp
 |p :: r=>by
  obtain⟨h1,h2,h3,h4⟩:=ods_basic hLW p;obtain⟨k1,k2,k3,k4⟩:=ods_basics hLW r;simp only[Ods.simL,Ods.les,Ods.anyL,Ods.eqs,Ods.wks];refine⟨⟨?_,?_⟩,fun h=>⟨h2 h.1,k2 h.2⟩,fun h=>⟨h3 h.1,k3 h.2⟩,fun hn h=>⟨h4 (fun e=>hn (.inl e)) h.1,k4 (fun e=>hn (.inr e)) h.2⟩⟩
  ·rintro (⟨a,b⟩ | ⟨a,b,c⟩)
   ·exact⟨⟨h1 a,b⟩,.inl a⟩
   have:=k1.1 c;exact⟨⟨h3 b,this.1⟩,.inr this.2⟩
  rintro⟨⟨a,b⟩,c⟩;rcases Classical.em (Ods.ls L W B p) with h | h
  ·exact .inl ⟨h,b⟩
  exact .inr ⟨h,h4 h a,k1.2 ⟨b,c.resolve_left h⟩⟩
end
variable {L' W' B':Nat→Nat→Prop}
end
end Lfc
