/- Parts of the proof that no input makes the law false: PaExp2, PaSim, PaBkK, PaBkP, PaBkQ. -/
import Derived.Test.YthajalgkjonaaaaGreatDoorBxAR
set_option linter.unusedVariables false
set_option linter.unusedSimpArgs false
set_option maxRecDepth 100000
set_option maxHeartbeats 32000000
namespace Lfc
theorem opd_stop{p:PE}{k:Nat}{s:List UInt8}(f:Nat)(h1:(p.pk k).kind=2)(h2:(p.pk k).text=s)(hs:s=[41]∨s=[58]∨s=[125]∨s=[93]):p.opdF (f+1) k=.ok none k:=by
 rw[PE.opdF];unfold PE.opdG;rw[h1,h2];rcases hs with rfl | rfl | rfl | rfl <;> rfl
theorem wf_parts{t:Raw}:t.wf=0↔t.form=true∧t.size≤4096∧t.depth≤128:=by
 unfold Raw.wf;cases hf:t.form
 ·simp
 simp only[Bool.not_true,Bool.false_eq_true,if_false];split
 ·simp;omega
 simp;omega
theorem wf_two{k p:Int}{n:List UInt8}{x y:Raw}(h:(Raw.node k n p [x,y]).wf=0)(fx:x.form=true)(fy:y.form=true):x.wf=0∧y.wf=0:=by
 obtain⟨_,h2,h3⟩:=wf_parts.1 h;simp only[Raw.size,Raw.sizes,Raw.depth,Raw.depths] at h2 h3;exact⟨wf_parts.2 ⟨fx,by omega,by omega⟩,wf_parts.2 ⟨fy,by omega,by omega⟩⟩
theorem wf_one{k p:Int}{n:List UInt8}{x:Raw}(h:(Raw.node k n p [x]).wf=0)(fx:x.form=true):x.wf=0:=by
 obtain⟨_,h2,h3⟩:=wf_parts.1 h;simp only[Raw.size,Raw.sizes,Raw.depth,Raw.depths] at h2 h3;exact wf_parts.2 ⟨fx,by omega,by omega⟩
theorem noOp_closed(ops:List Op)(t:Raw):NoOp ops ⟨t,true⟩:=rfl
theorem noOp_kind(ops:List Op)(t:Raw)(h:t.kind≠1):NoOp ops ⟨t,false⟩:=by
 unfold NoOp opOf;simp[h]
theorem name_arrR{n:List UInt8}(h:isName n=true):n≠arrR∧n≠arrL:=by
 have:=name_res h;exact⟨fun e=>by rw[e] at this;exact absurd this (by decide),fun e=>by rw[e] at this;exact absurd this (by decide)⟩
theorem leaf_arrow{n:List UInt8}{p:Int}(h:isName n=true):(⟨.node 1 n p [],false⟩:Opd).arrow=false:=by
 obtain⟨h1,h2⟩:=name_arrR h;simp[Opd.arrow,Raw.name,h1,h2]
theorem noOp_name{ops:List Op}{q:List (List UInt8)}(hq:∀o∈ops,o.name∈q){n:List UInt8}{p:Int}(h:isName n=true)(hn:n ∉ q):NoOp ops ⟨.node 1 n p [],false⟩:=by
 obtain⟨h1,h2⟩:=name_arrR h;show look ops n=none;unfold look;rw[if_neg h1,if_neg h2,List.find?_eq_none];intro o ho;simp only[decide_eq_true_eq];intro e;exact hn (e ▸ hq o ho)
theorem same_node{k p p':Int}{n:List UInt8}{xs ys:List Raw}(h:Raw.sames false xs ys=true):Raw.same false (.node k n p xs) (.node k n p' ys)=true:=by
 simp[Raw.same,h]
theorem sames_two{a b x y:Raw}(h:Raw.same false a x=true)(h':Raw.same false b y=true):Raw.sames false [a,b] [x,y]=true:=by
 simp[Raw.sames,h,h']
theorem kts_pos(q:List (List UInt8))(t:Raw):1≤(t.kts q).length:=by
 obtain⟨k,n,p,ts⟩:=t;simp only[Raw.kts,putKT];repeat' split
 all_goals simp[putKT]
 all_goals (first | omega | (split <;> simp <;> omega) | skip)
theorem is_true{p:PE}{k:Nat}{s:List UInt8}(h1:(p.pk k).kind=2)(h2:(p.pk k).text=s):p.is k 2 s=true:=by simp[PE.is,h1,h2]
theorem is_false{p:PE}{k:Nat}{s t:List UInt8}(h2:(p.pk k).text=t)(h:t≠s):p.is k 2 s=false:=by simp[PE.is,h2,h]
theorem punct_ok'{p:PE}{k:Nat}{s:List UInt8}(h1:(p.pk k).kind=2)(h2:(p.pk k).text=s):p.punct k s=.ok () (k+1):=by
 unfold PE.punct;rw[if_pos (is_true h1 h2)]
theorem par_of{p:PE}{f k k':Nat}{t:Raw}(h40:(p.pk k).kind=2∧(p.pk k).text=[40])(h:p.exprG (p.opdF f) (k+1)=.ok t k')(h41:(p.pk k').kind=2∧(p.pk k').text=[41]):p.opdF (f+1) k=.ok (some ⟨t,true⟩) (k'+1):=by
 rw[PE.opdF];unfold PE.opdG;rw[h40.1,h40.2];have:p.parG (p.opdF f) k=.ok ⟨t,true⟩ (k'+1):=by
  unfold PE.parG;rw[h];simp only[PR.then];rw[if_neg (by rw[is_false h41.2 (by decide)];simp)];simp only[PR.then];rw[punct_ok' h41.1 h41.2]
 show(p.parG (p.opdF f) k).opt=_;rw[this];rfl
theorem bindN_of{p:PE}{k:Nat}{n:List UInt8}(hn:isName n=true∨n=[95])(h1:(p.pk k).kind=if reservedB n then 2 else 1)(h2:(p.pk k).text=n):p.bindN k=.ok n (k+1):=by
 unfold PE.bindN;rcases hn with h | rfl
 ·rw[name_res h] at h1;rw[if_neg (by simp[PE.is,h1]),PE.name,if_pos (by simp[PE.isNm,h1,h2,h]),h2]
 rw[if_pos (is_true h1 h2)]
theorem bind_one{p:PE}{g:Nat→PR (Option Opd)}{kd:Int}{k k':Nat}{n e:List UInt8}{u:Raw}(hn:isName n=true∨n=[95])(h1:(p.pk (k+1)).kind=if reservedB n then 2 else 1)(h2:(p.pk (k+1)).text=n)
  (h3:(p.pk (k+2)).kind=2) (h4:(p.pk (k+2)).text=e) (he:e≠[58]) (hu:p.exprG g (k+3)=.ok u k'):p.bindG g kd e k=.ok ⟨.node kd n (p.pk k).pos [u],true⟩ k':=by
 unfold PE.bindG;rw[bindN_of hn h1 h2];simp only[PR.then];rw[if_neg (by rw[is_false h4 he];simp)];simp only;rw[punct_ok' h3 h4];simp only;rw[hu];rfl
theorem bind_two{p:PE}{g:Nat→PR (Option Opd)}{kd:Int}{k k1 k':Nat}{n e:List UInt8}{u v:Raw}(hn:isName n=true∨n=[95])(h1:(p.pk (k+1)).kind=if reservedB n then 2 else 1)(h2:(p.pk (k+1)).text=n)
  (h3:(p.pk (k+2)).kind=2) (h4:(p.pk (k+2)).text=[58]) (hu:p.exprG g (k+3)=.ok u k1) (h5:(p.pk k1).kind=2) (h6:(p.pk k1).text=e) (hv:p.exprG g (k1+1)=.ok v k'):p.bindG g kd e k=.ok ⟨.node kd n (p.pk k).pos [u,v],true⟩ k':=by
 unfold PE.bindG;rw[bindN_of hn h1 h2];simp only[PR.then];rw[if_pos (is_true h3 h4),hu];simp only;rw[punct_ok' h5 h6];simp only;rw[hv];rfl
theorem opd_bind{p:PE}{f k k':Nat}{kd:Int}{o e:List UInt8}{x:Opd}(hk:(kd=7∧o=[123]∧e=[125])∨(kd=8∧o=[91]∧e=[93]))(h1:(p.pk k).kind=2)(h2:(p.pk k).text=o)(h:p.bindG (p.opdF f) kd e k=.ok x k'):p.opdF (f+1) k=.ok (some x) k':=by
 rw[PE.opdF];unfold PE.opdG;rw[h1,h2];rcases hk with⟨rfl,rfl,rfl⟩ | ⟨rfl,rfl,rfl⟩
 ·show(p.bindG (p.opdF f) 7 [125] k).opt=_;rw[h];rfl
 show(p.bindG (p.opdF f) 8 [93] k).opt=_;rw[h];rfl
def Law(p:PE)(q:List (List UInt8))(t:Raw):Prop:=∀f k,(t.kts q).length≤f→At p k (t.kts q)→∃x,p.opdF f k=.ok (some x) (k+(t.kts q).length)∧Raw.same false x.tree t=true∧NoOp p.ops x
theorem expr_one{p:PE}{q:List (List UInt8)}(ho:∀o∈p.ops,o.bad=0){t:Raw}(h:Law p q t)(hw:t.wf=0){f k:Nat}(hf:(t.kts q).length≤f){s:List UInt8}(hs:s=[41]∨s=[58]∨s=[125]∨s=[93]){K:List (Int × List UInt8)}(hA:At p k (t.kts q++(2,s) :: K)) :
  ∃u,p.exprG (p.opdF f) k=.ok u (k+(t.kts q).length)∧Raw.same false u t=true∧At p (k+(t.kts q).length) ((2,s) :: K):=by
 obtain⟨h1,h2⟩:=hA.app;obtain⟨x,e,hsm,hno⟩:=h f k hf h1;obtain⟨b1,b2,b3,b4⟩:=h2.head;have hp:=kts_pos q t;obtain⟨f',rfl⟩:∃f',f=f'+1:=⟨f-1,by omega⟩;exact⟨x.tree,exprG_chain (opd_stop f' b2 b3 hs) (xs:=[x]) ⟨_,e,rfl⟩ (by simp;omega) (by simp) (res_one ho (.inl hno) (by rw[same_wf hsm];exact hw)),hsm,h2⟩
theorem opd_text(p:PE)(q:List (List UInt8))(ho:∀o∈p.ops,o.bad=0)(hq:∀o∈p.ops,o.name∈q)(m:Nat):∀t:Raw,t.size≤m→t.wf=0→Law p q t:=by
 induction m with
 |zero=>intro t h;have:=t.size_pos;omega
 |succ m ih =>
  intro t hm hw f k hf hA;have hform:=(wf_parts.1 hw).1;obtain⟨kd,n,ps,ts⟩:=t;have hp:=kts_pos q (.node kd n ps ts);obtain⟨f,rfl⟩:∃f',f=f'+1:=⟨f-1,by omega⟩;have H2:Raw.kts q (.node kd n ps ts)=putKT q kd n (Raw.ktss q ts):=rfl;rcases shapes hform with⟨hk,rfl,h1,h2,_⟩ | ⟨hk,rfl,x,y,rfl,fx,fy,_⟩ | ⟨hk,hn,x,rfl,fx,_⟩ | ⟨hk,hn,x,y,rfl,fx,fy,_⟩
  ·rcases hk with rfl | rfl | rfl | rfl
   ·have hn:=h1 (.inl rfl);by_cases hnq:n∈q
    ·have e:Raw.kts q (.node 1 n ps [])=[(2,[40]),(1,n),(2,[41])]:=(by rw[H2];simp[putKT,hnq]);rw[e] at hA hf ⊢;obtain⟨a1,a2,a3,hA⟩:=hA.head;obtain⟨b1,b2,b3,hA⟩:=hA.head;obtain⟨c1,c2,c3,_⟩:=hA.head;obtain⟨f,rfl⟩:∃f',f=f'+1:=⟨f-1,by simp at hf;omega⟩;have hx:p.opdF (f+1) (k+1)=.ok (some ⟨.node 1 n (p.pk (k+1)).pos [],false⟩) (k+1+1):=by
      rw[PE.opdF];unfold PE.opdG;rw[if_pos b2,b3,if_pos hn];rfl
     have hwx:(Raw.node 1 n (p.pk (k+1)).pos []).wf=0:=(by rw[same_wf (b:=.node 1 n ps []) (same_node rfl)];exact hw);have:=exprG_chain (opd_stop f c2 c3 (.inl rfl)) (xs:=[_]) ⟨_,hx,rfl⟩ (by simp;omega) (by simp) (res_one ho (.inr (leaf_arrow hn)) hwx);exact⟨_,par_of ⟨a2,a3⟩ this ⟨c2,c3⟩,same_node rfl,noOp_closed _ _⟩
    have e:Raw.kts q (.node 1 n ps [])=[(1,n)]:=(by rw[H2];simp[putKT,hnq]);rw[e] at hA hf ⊢;obtain⟨b1,b2,b3,hA⟩:=hA.head;refine⟨⟨.node 1 n (p.pk k).pos [],false⟩,?_,same_node rfl,noOp_name hq hn hnq⟩;rw[PE.opdF];unfold PE.opdG;rw[if_pos b2,b3,if_pos hn];rfl
   ·have hn:=h1 (.inr rfl);have e:Raw.kts q (.node 2 n ps [])=[(1,64 :: n)]:=(by rw[H2];simp[putKT]);rw[e] at hA hf ⊢;obtain⟨b1,b2,b3,hA⟩:=hA.head;refine⟨⟨.node 2 n (p.pk k).pos [],false⟩,?_,same_node rfl,noOp_kind _ _ (by simp[Raw.kind])⟩;rw[PE.opdF];unfold PE.opdG;rw[if_pos b2,b3,if_neg (by simp[isName]),if_pos (by simp[hn])];rfl
   ·obtain rfl:=h2 (.inl rfl);have e:Raw.kts q (.node 3 [] ps [])=[(2,[95])]:=(by rw[H2];simp[putKT]);rw[e] at hA hf ⊢;obtain⟨b1,b2,b3,hA⟩:=hA.head;refine⟨⟨.node 3 [] (p.pk k).pos [],false⟩,?_,same_node rfl,noOp_kind _ _ (by simp[Raw.kind])⟩;rw[PE.opdF];unfold PE.opdG;rw[b2,b3];rfl
   obtain rfl:=h2 (.inr rfl);have e:Raw.kts q (.node 4 [] ps [])=[(2,[116,121,112,101])]:=(by rw[H2];simp[putKT]);rw[e] at hA hf ⊢;obtain⟨b1,b2,b3,hA⟩:=hA.head;refine⟨⟨.node 4 [] (p.pk k).pos [],false⟩,?_,same_node rfl,noOp_kind _ _ (by simp[Raw.kind])⟩;rw[PE.opdF];unfold PE.opdG;rw[b2,b3];rfl
  ·obtain⟨wx,wy⟩:=wf_two hw fx fy;simp only[Raw.size,Raw.sizes] at hm;have Lx:=ih x (by omega) wx;have Ly:=ih y (by omega) wy;have px:=kts_pos q x;have py:=kts_pos q y;rcases hk with rfl | rfl | rfl
   ·have e:Raw.kts q (.node 5 [] ps [x,y])=(2,[40]) :: (x.kts q++(y.kts q++[(2,[41])])):=(by rw[H2];simp[putKT,Raw.ktss]);rw[e] at hA hf ⊢;simp only[List.length_cons,List.length_append,List.length_nil] at hf;obtain⟨a1,a2,a3,hA⟩:=hA.head;obtain⟨hA1,hA⟩:=hA.app;obtain⟨hA2,hA⟩:=hA.app;obtain⟨c1,c2,c3,_⟩:=hA.head;obtain⟨u,eu,su,nu⟩:=Lx f (k+1) (by omega) hA1;obtain⟨v,ev,sv,nv⟩:=Ly f _ (by omega) hA2;obtain⟨f,rfl⟩:∃f',f=f'+1:=⟨f-1,by omega⟩;have hs:Raw.same false (appT u.tree v.tree) (.node 5 [] ps [x,y])=true:=same_node (sames_two su sv);have:=exprG_chain (opd_stop f c2 c3 (.inl rfl)) (xs:=[u,v]) ⟨_,eu,_,ev,rfl⟩ (by simp;omega) (by simp) (res_two ho nu nv (by rw[same_wf su];exact wx) (by rw[same_wf sv];exact wy) (by rw[same_wf hs];exact hw));refine⟨⟨_,true⟩,?_,hs,noOp_closed _ _⟩;rw[par_of ⟨a2,a3⟩ this ⟨c2,c3⟩];simp only[List.length_cons,List.length_append,List.length_nil]
    congr 1;omega
   ·have e:Raw.kts q (.node 6 [] ps [x,y])=(2,[40]) :: (x.kts q++((2,[45,62]) :: (y.kts q++[(2,[41])]))):=(by rw[H2];simp[putKT,Raw.ktss]);rw[e] at hA hf ⊢;simp only[List.length_cons,List.length_append,List.length_nil] at hf;obtain⟨a1,a2,a3,hA⟩:=hA.head;obtain⟨hA1,hA⟩:=hA.app;obtain⟨d1,d2,d3,hA⟩:=hA.head;obtain⟨hA2,hA⟩:=hA.app;obtain⟨c1,c2,c3,_⟩:=hA.head;obtain⟨u,eu,su,nu⟩:=Lx f (k+1) (by omega) hA1;obtain⟨v,ev,sv,nv⟩:=Ly f _ (by omega) hA2;obtain⟨f,rfl⟩:∃f',f=f'+1:=⟨f-1,by omega⟩;have hs:Raw.same false (.node 6 [] (p.pk (k+1+(x.kts q).length)).pos [u.tree,v.tree]) (.node 6 [] ps [x,y])=true:=same_node (sames_two su sv);have ea:p.opdF (f+1) (k+1+(x.kts q).length)=.ok (some ⟨.node 1 arrR (p.pk (k+1+(x.kts q).length)).pos [],false⟩) (k+1+(x.kts q).length+1):=by
     rw[PE.opdF];unfold PE.opdG;rw[d2,d3];rw[PE.leaf];rfl
    have:=exprG_chain (opd_stop f c2 c3 (.inl rfl)) (xs:=[u,_,v]) ⟨_,eu,_,ea,_,ev,rfl⟩ (by simp;omega) (by simp) (res_three ho nu nv (by rw[same_wf su];exact wx) (by rw[same_wf sv];exact wy) (by rw[same_wf hs];exact hw));refine⟨⟨_,true⟩,?_,hs,noOp_closed _ _⟩;rw[par_of ⟨a2,a3⟩ this ⟨c2,c3⟩];simp only[List.length_cons,List.length_append,List.length_nil]
    congr 1;omega
   have e:Raw.kts q (.node 9 [] ps [x,y])=(2,[40]) :: (x.kts q++((2,[58]) :: (y.kts q++[(2,[41])]))):=(by rw[H2];simp[putKT,Raw.ktss]);rw[e] at hA hf ⊢;simp only[List.length_cons,List.length_append,List.length_nil] at hf;obtain⟨a1,a2,a3,hA⟩:=hA.head;obtain⟨u,eu,su,hA⟩:=expr_one ho Lx wx (f:=f) (by omega) (.inr (.inl rfl)) hA;obtain⟨d1,d2,d3,hA⟩:=hA.head;obtain⟨v,ev,sv,hA⟩:=expr_one ho Ly wy (f:=f) (by omega) (.inl rfl) hA;obtain⟨c1,c2,c3,_⟩:=hA.head;refine⟨⟨.node 9 [] (p.pk k).pos [u,v],true⟩,?_,same_node (sames_two su sv),noOp_closed _ _⟩;rw[PE.opdF];unfold PE.opdG;rw[a2,a3];have:p.parG (p.opdF f) k=.ok ⟨.node 9 [] (p.pk k).pos [u,v],true⟩ (k+1+(x.kts q).length+1+(y.kts q).length+1):=by
    unfold PE.parG;rw[eu];simp only[PR.then];rw[if_pos (is_true d2 d3),ev];simp only[PR.then];rw[punct_ok' c2 c3]
   show(p.parG (p.opdF f) k).opt=_;rw[this];simp only[PR.opt,PR.then,List.length_cons,List.length_append,List.length_nil]
   congr 1;omega
  ·have wx:=wf_one hw fx;simp only[Raw.size,Raw.sizes] at hm;have Lx:=ih x (by omega) wx;have px:=kts_pos q x;obtain⟨o,e,hoe,e',he⟩:∃o e:List UInt8,((kd=7∧o=[123]∧e=[125])∨(kd=8∧o=[91]∧e=[93]))∧Raw.kts q (.node kd n ps [x])=(2,[40]) :: (2,o) :: (if reservedB n then 2 else 1,n) :: (2,e) :: (x.kts q++[(2,[41])])∧(e=[125]∨e=[93]):=by
    rcases hk with rfl | rfl
    ·exact⟨[123],[125],.inl ⟨rfl,rfl,rfl⟩,by rw[H2];simp[putKT,Raw.ktss],.inl rfl⟩
    exact⟨[91],[93],.inr ⟨rfl,rfl,rfl⟩,by rw[H2];simp[putKT,Raw.ktss],.inr rfl⟩
   rw[e'] at hA hf ⊢;simp only[List.length_cons,List.length_append,List.length_nil] at hf;obtain⟨a1,a2,a3,hA⟩:=hA.head;obtain⟨b1,b2,b3,hA⟩:=hA.head;obtain⟨c1,c2,c3,hA⟩:=hA.head;obtain⟨d1,d2,d3,hA⟩:=hA.head;obtain⟨f,rfl⟩:∃f',f=f'+1:=⟨f-1,by omega⟩;obtain⟨u,eu,su,hA⟩:=expr_one ho Lx wx (f:=f) (by omega) (.inl rfl) hA;obtain⟨g1,g2,g3,_⟩:=hA.head;have hb:=opd_bind hoe b2 b3 (bind_one (kd:=kd) hn c2 c3 d2 d3 (by rcases he with rfl | rfl <;> decide) eu);have hs:Raw.same false (.node kd n (p.pk (k+1)).pos [u]) (.node kd n ps [x])=true:=same_node (by simp[Raw.sames,su]);have:=exprG_chain (opd_stop f g2 g3 (.inl rfl)) (xs:=[_]) ⟨_,hb,rfl⟩ (by simp;omega) (by simp) (res_one ho (.inl (noOp_closed _ _)) (by rw[same_wf hs];exact hw));refine⟨⟨_,true⟩,?_,hs,noOp_closed _ _⟩;rw[par_of ⟨a2,a3⟩ this ⟨g2,g3⟩];simp only[List.length_cons,List.length_append,List.length_nil]
   congr 1;omega
  obtain⟨wx,wy⟩:=wf_two hw fx fy;simp only[Raw.size,Raw.sizes] at hm;have Lx:=ih x (by omega) wx;have Ly:=ih y (by omega) wy;have px:=kts_pos q x;have py:=kts_pos q y;obtain⟨o,e,hoe,e',he⟩:∃o e:List UInt8,((kd=7∧o=[123]∧e=[125])∨(kd=8∧o=[91]∧e=[93]))∧Raw.kts q (.node kd n ps [x,y])=(2,[40]) :: (2,o) :: (if reservedB n then 2 else 1,n) :: (2,[58]) :: (x.kts q++((2,e) :: (y.kts q++[(2,[41])])))∧(e=[125]∨e=[93]):=by
   rcases hk with rfl | rfl
   ·exact⟨[123],[125],.inl ⟨rfl,rfl,rfl⟩,by rw[H2];simp[putKT,Raw.ktss],.inl rfl⟩
   exact⟨[91],[93],.inr ⟨rfl,rfl,rfl⟩,by rw[H2];simp[putKT,Raw.ktss],.inr rfl⟩
  rw[e'] at hA hf ⊢;simp only[List.length_cons,List.length_append,List.length_nil] at hf;obtain⟨a1,a2,a3,hA⟩:=hA.head;obtain⟨b1,b2,b3,hA⟩:=hA.head;obtain⟨c1,c2,c3,hA⟩:=hA.head;obtain⟨d1,d2,d3,hA⟩:=hA.head;obtain⟨f,rfl⟩:∃f',f=f'+1:=⟨f-1,by omega⟩;obtain⟨u,eu,su,hA⟩:=expr_one ho Lx wx (f:=f) (by omega) (by rcases he with rfl | rfl <;> simp) hA;obtain⟨g1,g2,g3,hA⟩:=hA.head;obtain⟨v,ev,sv,hA⟩:=expr_one ho Ly wy (f:=f) (by omega) (.inl rfl) hA;obtain⟨i1,i2,i3,_⟩:=hA.head;have hb:=opd_bind hoe b2 b3 (bind_two (kd:=kd) hn c2 c3 d2 d3 eu g2 g3 ev);have hs:Raw.same false (.node kd n (p.pk (k+1)).pos [u,v]) (.node kd n ps [x,y])=true:=same_node (sames_two su sv);have:=exprG_chain (opd_stop f i2 i3 (.inl rfl)) (xs:=[_]) ⟨_,hb,rfl⟩ (by simp;omega) (by simp) (res_one ho (.inl (noOp_closed _ _)) (by rw[same_wf hs];exact hw));refine⟨⟨_,true⟩,?_,hs,noOp_closed _ _⟩;rw[par_of ⟨a2,a3⟩ this ⟨i2,i3⟩];simp only[List.length_cons,List.length_append,List.length_nil]
  congr 1;omega
end Lfc
namespace Lfc
section
variable {p q:PE} {d:Nat} {lim:Nat→Prop} {A:Nat→Nat→Prop} {E:Prop}
def bndS(b:Bnd):Bnd:=(b.1,b.2.strip)
def BndsL(s t:List Bnd):Prop:=s.map bndS=t.map bndS
def Itm.strip(x:Itm):Itm:={ x with pos:=0,type:=x.type.map Raw.strip,value:=x.value.map Raw.strip,som:=x.som.map bndS,params:=x.params.map bndS }
end
end Lfc
namespace Lfc
def decS(n:Nat):List UInt8 :=
 if n<10 then [UInt8.ofNat (48+n)] else if n<100 then [UInt8.ofNat (48+n / 10),UInt8.ofNat (48+n % 10)]
 else if n<1000 then [UInt8.ofNat (48+n / 10 / 10),UInt8.ofNat (48+n / 10 % 10),UInt8.ofNat (48+n % 10)]
 else [UInt8.ofNat (48+n / 10 / 10 / 10),UInt8.ofNat (48+n / 10 / 10 % 10),UInt8.ofNat (48+n / 10 % 10),UInt8.ofNat (48+n % 10)]
theorem dec_small(n:Nat)(h:n<10000):dec n=decS n:=by
 unfold dec decS;by_cases h1:n<10
 ·rw[Go.Lib.decDigits,dif_pos h1,if_pos h1]
 rw[Go.Lib.decDigits,dif_neg h1,if_neg h1];by_cases h2:n<100
 ·rw[Go.Lib.decDigits,dif_pos (by omega),if_pos h2];rfl
 rw[Go.Lib.decDigits,dif_neg (by omega),if_neg h2];by_cases h3:n<1000
 ·rw[Go.Lib.decDigits,dif_pos (by omega),if_pos h3];rfl
 rw[Go.Lib.decDigits,dif_neg (by omega),if_neg h3,Go.Lib.decDigits,dif_pos (by omega)];rfl
theorem decS_all:(List.range 1001).all (fun n=>(decS n).all nameB && !reservedB (decS n) && decide (decS n≠[]) && decide ((decS n).length≤4) && decide (digitsP (decS n)=n) && (decS n).headD 0 != 64)=true:=by decide +kernel
theorem dec_ok(n:Nat)(h:n≤1000):(∀b∈dec n,nameB b=true)∧reservedB (dec n)=false∧dec n≠[]∧(dec n).length≤4∧digitsP (dec n)=n:=by
 have h1:=List.all_eq_true.1 decS_all n (List.mem_range.2 (by omega));simp only[Bool.and_eq_true,decide_eq_true_eq,Bool.not_eq_true',List.all_eq_true] at h1;rw[dec_small n (by omega)];exact⟨h1.1.1.1.1.1,h1.1.1.1.1.2,h1.1.1.1.2,h1.1.1.2,h1.1.2⟩
abbrev KT:=List (Int × List UInt8)
abbrev WK:=List (List UInt8 × KT)
def nmK(n:List UInt8):List UInt8 × KT:=(n,[(1,n)])
def puK(c:UInt8):List UInt8 × KT:=([c],[(2,[c])])
def trK(q:List (List UInt8))(t:Raw):List UInt8 × KT:=(t.fmt q,t.kts q)
def diK(w:List UInt8):List UInt8 × KT:=(37 :: w,[(3,w)])
def bndsK(q:List (List UInt8))(l:List Bnd):WK:=l.flatMap fun b=>[puK 123,nmK b.1,puK 58,trK q b.2,puK 125]
mutual
def Ord.wk:Ord→WK
 |.node k a ps=>if k=1 then [nmK (dec a.toNat)] else puK (if k=3 then 91 else 123) :: (Ord.wks ps++[puK (if k=3 then 93 else 125)])
def Ord.wks:List Ord→WK
 |[]=>[]
 |a :: r=>Ord.wk a++Ord.wks r
end
def fordsK(l:List (List UInt8 × Ord)):WK:=l.flatMap fun x=>nmK x.1 :: x.2.wk
def barsK:List (List UInt8)→WK
 |[]=>[]
 |[b]=>[nmK b]
 |b :: r=>nmK b :: nmK [124] :: barsK r
def relK(i:Int):List UInt8 × KT:=if i=1 then nmK [60] else if i=2 then nmK [60,61] else puK 61
def optK(c:UInt8)(q:List (List UInt8)):List Raw→WK
 |[]=>[]
 |t :: _=>[puK c,trK q t]
def fixK(f:Int):List UInt8 × KT:=if f=1 then diK [112,114,101,102,105,120] else if f=2 then diK [112,111,115,116,102,105,120] else if f=3 then(fixWord 3,[(3,[105,110,102,105,120]),(1,[110,111,110,101])]) else if f=4 then(fixWord 4,[(3,[105,110,102,105,120]),(1,[108,101,102,116])]) else(fixWord 5,[(3,[105,110,102,105,120]),(1,[114,105,103,104,116])])
def Itm.wk(q:List (List UInt8))(x:Itm):WK :=
 if x.kind=3 then [fixK x.op.fix,nmK (dec x.op.prec.toNat),nmK x.op.name]
 else if x.kind=1∨x.kind=2 then nmK x.name :: (optK 58 q x.type++optK 61 q x.value)
 else if x.kind=4 then [diK [98,108,111,99,107],nmK x.name,puK 58]++(if x.som.length=0 then [] else nmK [115,111,109,101] :: bndsK q x.som)++nmK [98,108,111,99,107] :: bndsK q x.params
 else if x.kind=5 then [diK [119,111,114,108,100,115],puK 40]++barsK x.blocks++puK 41 :: x.fams.map nmK
 else if x.kind=6 then [diK [109,111,100,101],nmK x.name]++x.signs.map (fun i=>nmK (signW i))
 else if x.kind=7 then [diK [99,111,118,101,114,115],nmK x.name]
 else if x.kind=8 then [diK [117,110,105,113,117,101],nmK x.name]
 else if x.kind=9 then [diK [115,116,114,105,99,116],nmK x.name]
 else if x.kind=10 then diK [116,101,114,109,105,110,97,116,101,115] :: fordsK x.orders
 else if x.kind=11 then diK [116,111,116,97,108] :: fordsK x.orders
 else if x.kind=12 then [diK [114,101,100,117,99,101,115],nmK x.name]++x.left.wk++[relK x.rel]++x.right.wk
 else diK [113,117,101,114,121] :: nmK (dec x.count.toNat) :: (x.type.take 1).map (trK q)
def Eat(l:WK):Prop:=∀p∈l,Eats p.1 p.2 Stop
theorem Eat.nil:Eat []:=fun p h=>by cases h
theorem Eat.cons{p:List UInt8 × KT}{l:WK}(h:Eats p.1 p.2 Stop)(hl:Eat l):Eat (p :: l):=fun x hx=>by
 rcases List.mem_cons.1 hx with rfl | hx
 ·exact h
 exact hl x hx
theorem Eat.app{l m:WK}(h:Eat l)(hm:Eat m):Eat (l++m):=fun x hx=>(List.mem_append.1 hx).elim (h x) (hm x)
theorem eats_nm{n:List UInt8}(h:isName n=true)(h6:n.length≤60):Eats (nmK n).1 (nmK n).2 Stop:=by
 have:=eats_word n (name_ne h) (by omega) (name_all h);rwa[name_res h] at this
theorem eats_pu{c:UInt8}(h:specialB c=true):Eats (puK c).1 (puK c).2 Stop:=(eats_special c h).mono fun _ _=>trivial
theorem eats_wd(w:List UInt8)(h:(!w.isEmpty && decide (w.length≤64) && w.all nameB && !reservedB w)=true):Eats (nmK w).1 (nmK w).2 Stop:=by
 simp only[Bool.and_eq_true,decide_eq_true_eq,Bool.not_eq_true',List.all_eq_true] at h;have:=eats_word w (by intro e;subst e;simp at h) h.1.1.2 h.1.2;rwa[h.2] at this
theorem eats_dec(n:Nat)(h:n≤1000):Eats (nmK (dec n)).1 (nmK (dec n)).2 Stop:=by
 obtain⟨h1,h2,h3,h4,_⟩:=dec_ok n h;have:=eats_word (dec n) h3 (by omega) h1;rwa[h2] at this
theorem letter_stop{c:UInt8}(h:nameB c=false):letterB c=false:=by
 unfold nameB at h;unfold letterB;simp only[decide_eq_false_iff_not] at h ⊢;omega
theorem nx_pct(r:List UInt8):nx (37 :: r)=pc r:=by simp[nx,blankB]
theorem eats_di(w:List UInt8)(h:(!w.isEmpty && decide (w.length≤64) && w.all letterB)=true):Eats (diK w).1 (diK w).2 Stop:=by
 simp only[Bool.and_eq_true,decide_eq_true_eq,Bool.not_eq_true',List.all_eq_true] at h;obtain⟨⟨h1,h2⟩,h3⟩:=h;intro n z hz h0;have hrun:=runLen_app letterB w z h3 (fun d q e=>letter_stop (hz d q e));cases w with
 |nil=>simp at h1
 |cons b r =>
  have hb:=h3 b List.mem_cons_self;refine⟨[⟨3,b :: r,n⟩],?_,rfl⟩;have hb':b.toNat≠123:=by unfold letterB at hb;simp only[decide_eq_true_eq] at hb;omega
  have hrun':runLen letterB (b :: (r++z))=r.length+1:=by simpa using hrun
  have e:nx (37 :: ((b :: r)++z))=⟨3,b :: r,(b :: r).length+1,0⟩:=by
   rw[nx_pct];show pc (b :: (r++z))=_;unfold pc;simp only;rw[if_neg hb',hrun',if_neg (by omega),if_neg (by have:(b :: r).length=r.length+1:=rfl;omega),List.take_succ_cons,List.take_left];rfl
  exact sc_step n _ 3 (b :: r) 37 ((b :: r)++z) z e (by decide) (by simp[diK]) (by simpa[diK,Nat.add_assoc,Nat.add_comm] using h0)
theorem eats_tr(q:List (List UInt8))(t:Raw)(hw:t.wf=0)(hs:t.short 60):Eats (trK q t).1 (trK q t).2 Stop:=by
 unfold trK Raw.fmt;rw[if_pos hw];exact eats_text q t.size t (Nat.le_refl _) (wf_parts.1 hw).1 hs
theorem joinW_cons(a b:List UInt8)(r:List (List UInt8)):joinW (a :: b :: r)=a++32 :: joinW (b :: r):=by
 simp[joinW,List.intercalate,List.intersperse]
theorem eats_join:∀l:WK,Eat l→l≠[]→Eats (joinW (l.map Prod.fst)) (l.flatMap Prod.snd) Stop
 |[],_,h=>absurd rfl h
 |[p],h,_=>by
  have:=h p List.mem_cons_self;simpa[joinW,List.intercalate,List.intersperse] using this
 |p :: p' :: r,h,_=>by
  have h1:=h p List.mem_cons_self;have h2:=eats_join (p' :: r) (fun x hx=>h x (List.mem_cons_of_mem _ hx)) (by simp);have h3:=(h1.app (eats_blank 32 (by decide)) (fun z _=>stop_cons _ (by decide))).app h2 (fun _ _=>trivial);rw[List.map_cons,List.map_cons,joinW_cons,←List.map_cons,List.flatMap_cons];simpa using h3
mutual
theorem wk_fst:∀o:Ord,o.wk.map Prod.fst=o.words
 |.node k a ps=>by
  have h:=wks_fst' ps;rw[Ord.wk,Ord.words];split
  ·rfl
  rw[List.map_cons,List.map_append,h];by_cases h3:k=3
  ·simp[h3,puK]
  simp[h3,puK]
theorem wks_fst':∀l:List Ord,(Ord.wks l).map Prod.fst=Ord.wordss l
 |[]=>rfl
 |a :: r=>by rw[Ord.wks,Ord.wordss,List.map_append,wk_fst a,wks_fst' r]
end
theorem bars_fst:∀l:List (List UInt8),(barsK l).map Prod.fst=barsW l
 |[]=>rfl
 |[b]=>rfl
 |b :: c :: r=>by simp[barsK,barsW,nmK,bars_fst (c :: r)]
theorem bnds_fst(q:List (List UInt8))(l:List Bnd):(bndsK q l).map Prod.fst=bndsW q l:=by
 simp[bndsK,bndsW,List.map_flatMap,puK,nmK,trK]
theorem fords_fst(l:List (List UInt8 × Ord)):(fordsK l).map Prod.fst=fordsW l:=by
 simp[fordsK,fordsW,List.map_flatMap,nmK,wk_fst]
theorem opt_fst(c:UInt8)(q:List (List UInt8)):∀l:List Raw,(optK c q l).map Prod.fst=optW c q l
 |[]=>rfl
 |t :: r=>by simp[optK,optW,puK,trK]
theorem fix_fst(f:Int):(fixK f).1=fixWord f:=by
 unfold fixK fixWord diK;split
 ·rfl
 split
 ·rfl
 split
 ·rfl
 split <;> rfl
theorem item_fst(q:List (List UInt8))(x:Itm):(x.wk q).map Prod.fst=x.words q:=by
 unfold Itm.wk Itm.words Itm.words1;by_cases h3:x.kind=3
 ·rw[if_pos h3,if_pos (.inr (.inr h3)),if_pos h3];simp[fix_fst,nmK]
 rw[if_neg h3];by_cases h1:x.kind=1∨x.kind=2
 ·have h12:x.kind=1∨x.kind=2∨x.kind=3:=by omega
  rw[if_pos h1,if_pos h12,if_neg h3];simp[opt_fst,nmK]
 have h12:¬(x.kind=1∨x.kind=2∨x.kind=3):=by omega
 rw[if_neg h1,if_neg h12];by_cases h4:x.kind=4
 ·rw[if_pos h4,if_pos h4];by_cases h0:x.som.length=0
  ·rw[if_pos h0,if_pos h0];simp[diK,nmK,puK,bnds_fst]
  rw[if_neg h0,if_neg h0];simp[diK,nmK,puK,bnds_fst]
 rw[if_neg h4,if_neg h4];by_cases h5:x.kind=5
 ·rw[if_pos h5,if_pos h5];simp[diK,nmK,puK,bars_fst,Function.comp_def]
 rw[if_neg h5,if_neg h5];by_cases h6:x.kind=6
 ·rw[if_pos h6,if_pos h6];simp[diK,nmK,puK,Function.comp_def]
 rw[if_neg h6,if_neg h6];by_cases h7:x.kind=7
 ·rw[if_pos h7,if_pos h7];rfl
 rw[if_neg h7,if_neg h7];by_cases h8:x.kind=8
 ·rw[if_pos h8,if_pos h8];rfl
 rw[if_neg h8,if_neg h8];by_cases h9:x.kind=9
 ·rw[if_pos h9,if_pos h9];rfl
 rw[if_neg h9,if_neg h9];by_cases h10:x.kind=10
 ·rw[if_pos h10,if_pos h10];simp[diK,fords_fst]
 rw[if_neg h10,if_neg h10];by_cases h11:x.kind=11
 ·rw[if_pos h11,if_pos h11];simp[diK,fords_fst]
 rw[if_neg h11,if_neg h11];by_cases h12:x.kind=12
 ·rw[if_pos h12,if_pos h12];have:(relK x.rel).1=relW x.rel:=by unfold relK relW;split;rfl;split <;> rfl
  simp[diK,nmK,wk_fst,this]
 rw[if_neg h12,if_neg h12];rcases hx:x.type with _ | ⟨t,r⟩ <;> simp[diK,nmK,trK,Itm.words.optW2]
def Itm.kts(q:List (List UInt8))(x:Itm):KT:=(x.wk q).flatMap Prod.snd++[(2,[46])]
def ktsIts(q:List (List UInt8)):List Itm→KT
 |[]=>[]
 |x :: r=>x.kts q++ktsIts (x.quo q) r
def Ord.low:Ord→Bool:=fun o=>decide (o.size≤64)
theorem eats_item(q:List (List UInt8))(x:Itm)(h:Eat (x.wk q))(hne:x.wk q≠[]):Eats (joinW (x.words q)++[32,46,10]) (x.kts q) Any:=by
 have h1:=eats_join _ h hne;rw[item_fst] at h1;have h2:=((h1.app (eats_blank 32 (by decide)) (fun z _=>stop_cons _ (by decide))).app (eats_special 46 (by decide)) (fun _ _=>trivial)).app (eats_blank 10 (by decide)) (fun _ _=>trivial);simpa[Itm.kts] using h2
def EatI(q:List (List UInt8)):List Itm→Prop
 |[]=>True
 |x :: r=>Eat (x.wk q)∧x.wk q≠[]∧EatI (x.quo q) r
theorem eats_items:∀(l:List Itm)(q:List (List UInt8)),EatI q l→Eats (fmtIts q l) (ktsIts q l) Any
 |[],q,_=>eats_nil
 |x :: r,q,h=>by
  have h1:=eats_item q x h.1 h.2.1;have h2:=eats_items r (x.quo q) h.2.2;exact(h1.app h2 (fun _ _=>trivial))
theorem lex_items(l:List Itm)(h:EatI [] l)(hl:(fmtIts [] l).length≤20000):∃ts,lex (fmtIts [] l)=(ts,0,(fmtIts [] l).length)∧ts.map kt=ktsIts [] l:=by
 obtain⟨ts,e,k⟩:=eats_items l [] h 0 [] trivial rfl;rw[List.append_nil] at e;refine⟨ts,?_,k⟩;rw[lex_sc' _ (by omega) (Nat.le_trans (brk_len _ _) hl),e,sc_nil];simp
end Lfc
namespace Lfc
theorem isNm_of{p:PE}{k:Nat}{n:List UInt8}(hn:isName n=true)(h1:(p.pk k).kind=1)(h2:(p.pk k).text=n):p.isNm k=true:=by simp[PE.isNm,h1,h2,hn]
theorem isNm_two{p:PE}{k:Nat}(h1:(p.pk k).kind=2):p.isNm k=false:=by simp[PE.isNm,h1]
theorem name_of{p:PE}{k:Nat}{n:List UInt8}(hn:isName n=true)(h1:(p.pk k).kind=1)(h2:(p.pk k).text=n):p.name k=.ok n (k+1):=by
 unfold PE.name;rw[isNm_of hn h1 h2,h2];rfl
theorem number_of{p:PE}{k n:Nat}{lo hi:Int}(hn:n≤1000)(h1:(p.pk k).kind=1)(h2:(p.pk k).text=dec n)(hlo:lo≤n)(hhi:(n:Int)≤hi):p.number k lo hi=.ok (n:Int) (k+1):=by
 unfold PE.number;rw[h1,h2,(dec_ok n hn).2.2.2.2,if_neg (by omega)]
theorem word_of{p:PE}{k:Nat}{ws:List (List UInt8)}{w:List UInt8}{i:Int}(h1:(p.pk k).kind=1)(h2:(p.pk k).text=w)(hi:idxW w ws=i)(h0:0≤i):p.word k ws=.ok i (k+1):=by
 unfold PE.word;rw[h1,h2,hi,if_neg (by omega)]
theorem opd_stop2{p:PE}{k:Nat}{s:List UInt8}(f:Nat)(h1:(p.pk k).kind=2)(h2:(p.pk k).text=s)(hs:s=[46]∨s=[61]∨s=[125]):p.opdF (f+1) k=.ok none k:=by
 rw[PE.opdF];unfold PE.opdG;rw[h1,h2];rcases hs with rfl | rfl | rfl <;> rfl
structure Good(p:PE)(q:List (List UInt8)):Prop where
 ok:∀o∈p.ops,o.bad=0
 quo:∀o∈p.ops,o.name∈q
theorem At.len{p:PE}{k:Nat}{K:List (Int × List UInt8)}(h:At p k K)(hk:K≠[]):k+K.length≤p.toks.length:=by
 obtain⟨R,h⟩:=h;have:=congrArg List.length h;simp only[List.length_map,List.length_drop,List.length_append] at this;have:0<K.length:=Nat.pos_of_ne_zero fun e=>hk (List.length_eq_zero_iff.1 e);omega
theorem expr_of{p:PE}{q:List (List UInt8)}(hg:Good p q){t:Raw}(hw:t.wf=0){k:Nat}{s:List UInt8}(hs:s=[46]∨s=[61]∨s=[125]){K:List (Int × List UInt8)}(hA:At p k (t.kts q++(2,s) :: K)) :
  ∃u,p.expr k=.ok u (k+(t.kts q).length)∧u.strip=t.strip∧At p (k+(t.kts q).length) ((2,s) :: K):=by
 obtain⟨h1,h2⟩:=hA.app;have hp:=kts_pos q t;have hl:=h1.len (by intro e;rw[e] at hp;simp at hp);obtain⟨x,e,hsm,hno⟩:=opd_text p q hg.ok hg.quo t.size t (Nat.le_refl _) hw (p.toks.length+1) k (by omega) h1;obtain⟨b1,b2,b3,b4⟩:=h2.head;exact⟨x.tree,exprG_chain (opd_stop2 _ b2 b3 hs) (xs:=[x]) ⟨_,e,rfl⟩ (by simp;omega) (by simp) (res_one hg.ok (.inl hno) (by rw[same_wf hsm];exact hw)),(same_strip _ _).1 hsm,h2⟩
def Ord.kt(o:Ord):KT:=o.wk.flatMap Prod.snd
def Ord.kts(l:List Ord):KT:=(Ord.wks l).flatMap Prod.snd
theorem ord_kt1(a:Int)(ps:List Ord):(Ord.node 1 a ps).kt=[(1,dec a.toNat)]:=by simp[Ord.kt,Ord.wk,nmK]
theorem ord_kt2{k:Int}(a:Int)(ps:List Ord)(h:k=2∨k=3):(Ord.node k a ps).kt=(2,if k=3 then [91] else [123]) :: (Ord.kts ps++[(2,if k=3 then [93] else [125])]):=by
 rcases h with rfl | rfl <;> simp[Ord.kt,Ord.kts,Ord.wk,puK]
theorem ord_kts_cons(a:Ord)(r:List Ord):Ord.kts (a :: r)=a.kt++Ord.kts r:=by simp[Ord.kts,Ord.kt,Ord.wks]
theorem ord_pos{o:Ord}{d:Int}(h:o.ofm d=true):∃a s K,o.kt=(a,s) :: K∧((a=1)∨(a=2∧(s=[91]∨s=[123]))):=by
 obtain⟨k,a,ps⟩:=o;by_cases h1:k=1
 ·subst h1;exact⟨_,_,_,ord_kt1 a ps,.inl rfl⟩
 by_cases h2:k=2∨k=3
 ·refine⟨_,_,_,ord_kt2 a ps h2,.inr ⟨rfl,?_⟩⟩;rcases h2 with rfl | rfl
  ·exact .inr rfl
  exact .inl rfl
 rw[Ord.ofm,if_neg h1,if_neg h2] at h;cases h
theorem parts_of(p:PE)(g:Nat→PR Ord)(e:List UInt8)(he:e=[93]∨e=[125])(d:Int):∀(ps:List Ord)(f k:Nat)(acc:List Ord)(K:KT),(∀o∈ps,o.ofm d=true∧∀k K',At p k (o.kt++K')→g k=.ok o (k+o.kt.length))→ps.length<f→(acc≠[]∨ps≠[])→At p k (Ord.kts ps++(2,e) :: K) →
  partsF p g e f k acc=.ok (acc++ps) (k+(Ord.kts ps).length)
 |[],f+1,k,acc,K,_,_,hne,hA=>by
  obtain⟨_,a2,a3,_⟩:=At.head (show At p k ((2,e) :: K) from hA);have hne':acc≠[]:=hne.elim id (fun h=>absurd rfl h);rw[partsF,if_pos ⟨hne',is_true a2 a3⟩];simp[Ord.kts,Ord.wks]
 |o :: r,f+1,k,acc,K,hp,hf,_,hA=>by
  rw[ord_kts_cons,List.append_assoc] at hA;obtain⟨ho,hg⟩:=hp o List.mem_cons_self;have hA2:=hA.app.2;obtain⟨a,s,K',e1,e2⟩:=ord_pos ho;have hd:=hA;rw[e1] at hd;obtain⟨_,b2,b3,_⟩:=At.head (show At p k ((a,s) :: (K'++(Ord.kts r++(2,e) :: K))) from hd);have hfalse:p.is k 2 e=false:=by
   rcases e2 with rfl | ⟨rfl,hs⟩
   ·simp[PE.is,b2]
   refine is_false b3 ?_;rcases hs with rfl | rfl <;> rcases he with rfl | rfl <;> decide
  rw[partsF,if_neg (by rw[hfalse];simp),hg k _ hA];show partsF p g e f (k+o.kt.length) (acc++[o])=_;rw[parts_of p g e he d r f _ _ K (fun o ho=>hp o (List.mem_cons_of_mem _ ho)) (by simp at hf;omega) (.inl (by simp)) hA2,ord_kts_cons,List.append_assoc,List.length_append,Nat.add_assoc];rfl
theorem ofms_mem{d:Int}:∀{l:List Ord},Ord.ofms d l=true→∀o∈l,o.ofm d=true
 |[],_,o,h=>by cases h
 |a :: r,h,o,ho=>by
  rw[Ord.ofms,Bool.and_eq_true] at h;rcases List.mem_cons.1 ho with rfl | ho
  ·exact h.1
  exact ofms_mem h.2 o ho
theorem size_mem:∀{l:List Ord}{o:Ord},o∈l→o.size≤Ord.sizes l
 |a :: r,o,h=>by
  rw[Ord.sizes];rcases List.mem_cons.1 h with rfl | h
  ·omega
  have:=size_mem h;omega
theorem ordF_of(p:PE)(m:Nat):∀(o:Ord)(f d k:Nat)(K:KT),o.size≤m→o.ofm d=true→128≤f+d→d<128→At p k (o.kt++K)→p.orderF f d k=.ok o (k+o.kt.length):=by
 induction m with
 |zero=>intro o f d k K h;obtain⟨_,_,_⟩:=o;simp[Ord.size] at h
 |succ m ih =>
  intro o f d k K hm ho hf hd hA;obtain⟨f,rfl⟩:∃f',f=f'+1:=⟨f-1,by omega⟩;obtain⟨kd,a,ps⟩:=o;by_cases h1:kd=1
  ·subst h1;rw[ord_kt1] at hA ⊢;rw[Ord.ofm,if_pos rfl] at ho;simp only[Bool.and_eq_true,decide_eq_true_eq] at ho;obtain⟨_,a2,a3,_⟩:=At.head (show At p k ((1,dec a.toNat) :: K) from hA);have i1:p.is k 2 [91]=false:=(by simp[PE.is,a2]);have i2:p.is k 2 [123]=false:=(by simp[PE.is,a2]);rw[PE.orderF,i1,i2,if_neg (by simp),if_neg (by simp),number_of (n:=a.toNat) (by omega) a2 a3 (by omega) (by omega)];show PR.ok (Ord.node 1 (a.toNat:Int) []) (k+1)=_;rw[List.eq_nil_of_length_eq_zero ho.2,show((a.toNat:Nat):Int)=a by omega];rfl
  rw[Ord.ofm,if_neg h1] at ho;by_cases h2:kd=2∨kd=3
  ·rw[if_pos h2] at ho;simp only[Bool.and_eq_true,decide_eq_true_eq] at ho;obtain⟨⟨⟨h0,hl⟩,hd1⟩,hfs⟩:=ho;subst h0;rw[ord_kt2 0 ps h2] at hA ⊢;obtain⟨a1,a2,a3,a4⟩:=At.head (show At p k ((2,if kd=3 then [91] else [123]) :: (Ord.kts ps++[(2,if kd=3 then [93] else [125])]++K)) from hA);rw[List.append_assoc] at a4;have hlen:=a4.len (by simp);simp only[List.length_append,List.length_cons] at hlen;have hkl:ps.length≤(Ord.kts ps).length:=by
    clear hA a4 hlen hm;induction ps with
    |nil=>simp
    |cons x r ihr =>
     rw[Ord.ofms,Bool.and_eq_true] at hfs;obtain⟨a,s,K',e1,_⟩:=ord_pos hfs.1;rw[ord_kts_cons,e1];by_cases hr:0<r.length
     ·have:=ihr hfs.2 hr;simp;omega
     have:r=[]:=List.eq_nil_of_length_eq_zero (by omega);subst this;simp
   have hps:∀o∈ps,o.ofm ((d+1:Nat):Int)=true∧∀k K',At p k (o.kt++K')→p.orderF f (d+1) k=.ok o (k+o.kt.length):=fun o ho=>by
    have hfo:o.ofm ((d+1:Nat):Int)=true:=(by simpa using ofms_mem hfs o ho);have hs:=size_mem ho;rw[Ord.size] at hm;exact⟨hfo,fun k K' h=>ih o f (d+1) k K' (by omega) hfo (by omega) (by omega) h⟩
   have hne:ps≠[]:=(by intro e;subst e;simp at hl);rcases h2 with rfl | rfl
   ·have i1:p.is k 2 [91]=false:=is_false a3 (by decide);have i2:p.is k 2 [123]=true:=is_true a2 a3;have hp:=parts_of p (p.orderF f (d+1)) [125] (.inr rfl) _ ps (p.toks.length+1) (k+1) [] K hps (by omega) (.inr hne) (by simpa using a4);rw[PE.orderF,i1,i2,if_neg (by simp),if_pos rfl,if_neg (by omega),hp];show PR.ok (Ord.node 2 0 ([]++ps)) _=_
    congr 1
    simp;omega
   have i1:p.is k 2 [91]=true:=is_true a2 a3;have hp:=parts_of p (p.orderF f (d+1)) [93] (.inl rfl) _ ps (p.toks.length+1) (k+1) [] K hps (by omega) (.inr hne) (by simpa using a4);rw[PE.orderF,i1,if_pos rfl,if_neg (by omega),hp];show PR.ok (Ord.node 3 0 ([]++ps)) _=_
   congr 1
   simp;omega
  rw[if_neg h2] at ho;cases ho
theorem ord_of{p:PE}{o:Ord}{k:Nat}{K:KT}(ho:o.ofm 0=true)(hA:At p k (o.kt++K)):p.order k=.ok o (k+o.kt.length)∧At p (k+o.kt.length) K:=⟨ordF_of p o.size o 128 0 k K (Nat.le_refl _) ho (by decide) (by decide) hA,hA.app.2⟩
def bndsT(q:List (List UInt8))(l:List Bnd):KT:=(bndsK q l).flatMap Prod.snd
theorem bndsT_cons(q:List (List UInt8))(b:Bnd)(r:List Bnd):bndsT q (b :: r)=[(2,[123]),(1,b.1),(2,[58])]++b.2.kts q++[(2,[125])]++bndsT q r:=by simp[bndsT,bndsK,puK,nmK,trK]
theorem binders_of{p:PE}{q:List (List UInt8)}(hg:Good p q):∀(l:List Bnd)(f k:Nat)(acc:List Bnd)(a:Int)(s:List UInt8)(K:KT),(∀b∈l,isName b.1=true∧b.2.wf=0)→l.length<f→l≠[]→¬(a=2∧s=[123])→At p k (bndsT q l++(a,s) :: K) →
  ∃l',bindersF p f k acc=.ok (acc++l') (k+(bndsT q l).length)∧l'.map bndS=l.map bndS
 |b :: r,f+1,k,acc,a,s,K,hb,hf,_,hs,hA=>by
  rw[bndsT_cons] at hA;simp only[List.append_assoc,List.cons_append,List.nil_append] at hA;obtain⟨hn,hw⟩:=hb b List.mem_cons_self;obtain⟨_,a2,a3,a4⟩:=hA.head;obtain⟨_,b2,b3,b4⟩:=a4.head;obtain⟨_,c2,c3,c4⟩:=b4.head;obtain⟨u,e,hu,d4⟩:=expr_of hg hw (.inr (.inr rfl)) c4;obtain⟨_,d2,d3,d5⟩:=d4.head;rw[bindersF,punct_ok' a2 a3,PR.then_okE,name_of hn b2 b3,PR.then_okE,punct_ok' c2 c3,PR.then_okE,e,PR.then_okE,punct_ok' d2 d3,PR.then_okE];have hlen:(bndsT q (b :: r)).length=3+(b.2.kts q).length+1+(bndsT q r).length:=by rw[bndsT_cons];simp;omega
  cases r with
  |nil =>
   obtain⟨_,f2,f3,_⟩:=At.head (show At p _ ((a,s) :: K) from d5);have hi:p.is (k+1+1+1+(b.2.kts q).length+1) 2 [123]=false:=by
    simp only[PE.is,f2,f3,Bool.and_eq_false_iff,decide_eq_false_iff_not];by_cases ha:a=2
    ·exact .inr fun h=>hs ⟨ha,h⟩
    exact .inl ha
   rw[hi,if_neg (by simp)];refine⟨[(b.1,u)],?_,by simp[bndS,hu]⟩;rw[hlen,show(bndsT q []).length=0 from rfl]
   congr 1;omega
  |cons b' r' =>
   have hi:p.is (k+1+1+1+(b.2.kts q).length+1) 2 [123]=true:=by
    have d6:=d5;rw[bndsT_cons] at d6;simp only[List.append_assoc,List.cons_append,List.nil_append] at d6;obtain⟨_,f2,f3,_⟩:=d6.head;exact is_true f2 f3
   rw[hi,if_pos rfl];obtain⟨l',e',h'⟩:=binders_of hg (b' :: r') f (k+1+1+1+(b.2.kts q).length+1) (acc++[(b.1,u)]) a s K (fun x hx=>hb x (List.mem_cons_of_mem _ hx)) (by simp at hf ⊢;omega) (by simp) hs d5;refine⟨(b.1,u) :: l',?_,by simp[bndS,hu,h']⟩;rw[e',hlen];simp only[List.append_assoc,List.cons_append,List.nil_append]
   congr 1;omega
end Lfc
namespace Lfc
theorem bars_of{p:PE}:∀(r:List (List UInt8))(f k:Nat)(acc:List (List UInt8))(s:List UInt8)(K:KT),(∀b∈r,isName b=true)→r.length<f→At p k (r.flatMap (fun b=>[((1:Int),[(124:UInt8)]),(1,b)])++(2,s) :: K)→barsF p f k acc=.ok (acc++r) (k+2*r.length)∧At p (k+2*r.length) ((2,s) :: K)
 |[],f+1,k,acc,s,K,_,_,hA=>by
  obtain⟨_,a2,_,_⟩:=At.head (show At p k ((2,s) :: K) from hA);have:p.is k 1 [124]=false:=by simp[PE.is,a2]
  rw[barsF,this,if_neg (by simp)];exact⟨by simp,hA⟩
 |b :: r,f+1,k,acc,s,K,hb,hf,hA=>by
  simp only[List.flatMap_cons,List.append_assoc,List.cons_append,List.nil_append] at hA;obtain⟨_,a2,a3,a4⟩:=hA.head;obtain⟨_,b2,b3,b4⟩:=a4.head;have:p.is k 1 [124]=true:=by simp[PE.is,a2,a3]
  rw[barsF,this,if_pos rfl,name_of (hb b List.mem_cons_self) b2 b3,PR.then_okE];obtain⟨e,h⟩:=bars_of r f (k+1+1) (acc++[b]) s K (fun x hx=>hb x (List.mem_cons_of_mem _ hx)) (by simp at hf;omega) b4;rw[e,List.length_cons,show k+2*(r.length+1)=k+1+1+2*r.length by omega];exact⟨by simp,h⟩
theorem barsK_flat:∀(b:List UInt8)(r:List (List UInt8)),(barsK (b :: r)).flatMap Prod.snd=((1:Int),b) :: r.flatMap (fun b=>[((1:Int),[(124:UInt8)]),(1,b)])
 |b,[]=>rfl
 |b,c :: r=>by
  have:=barsK_flat c r;simp only[barsK,List.flatMap_cons,this];rfl
theorem names_of{p:PE}:∀(l:List (List UInt8))(f k:Nat)(acc:List (List UInt8))(s:List UInt8)(K:KT),(∀b∈l,isName b=true)→l.length<f→At p k (l.map (fun n=>((1:Int),n))++(2,s) :: K)→namesF p f k acc=.ok (acc++l) (k+l.length)∧At p (k+l.length) ((2,s) :: K)
 |[],f+1,k,acc,s,K,_,_,hA=>by
  obtain⟨_,a2,_,_⟩:=At.head (show At p k ((2,s) :: K) from hA);rw[namesF,isNm_two a2,if_neg (by simp)];exact⟨by simp,hA⟩
 |b :: r,f+1,k,acc,s,K,hb,hf,hA=>by
  simp only[List.map_cons,List.cons_append] at hA;obtain⟨_,a2,a3,a4⟩:=hA.head;have hn:=hb b List.mem_cons_self;rw[namesF,isNm_of hn a2 a3,if_pos rfl,name_of hn a2 a3,PR.then_okE];obtain⟨e,h⟩:=names_of r f (k+1) (acc++[b]) s K (fun x hx=>hb x (List.mem_cons_of_mem _ hx)) (by simp at hf;omega) a4;rw[e,List.length_cons,show k+(r.length+1)=k+1+r.length by omega];exact⟨by simp,h⟩
theorem signs_of{p:PE}:∀(l:List Int)(f k:Nat)(acc:List Int)(K:KT),(∀i∈l,1≤i∧i≤3)→l.length<f→At p k (l.map (fun i=>((1:Int),signW i))++(2,[46]) :: K)→signsF p f k acc=.ok (acc++l) (k+l.length+1)
 |[],f+1,k,acc,K,_,_,hA=>by
  obtain⟨_,a2,a3,_⟩:=At.head (show At p k ((2,[46]) :: K) from hA);rw[signsF,is_true a2 a3,if_pos rfl];simp
 |i :: r,f+1,k,acc,K,hb,hf,hA=>by
  simp only[List.map_cons,List.cons_append] at hA;obtain⟨_,a2,a3,a4⟩:=hA.head;obtain⟨h1,h3⟩:=hb i List.mem_cons_self;have:p.is k 2 [46]=false:=by simp[PE.is,a2]
  have hi:idxW (signW i) signs=i-1:=by
   have:i=1∨i=2∨i=3:=(by omega);rcases this with rfl | rfl | rfl <;> decide
  rw[signsF,this,if_neg (by simp),word_of a2 a3 hi (by omega),PR.then_okE];rw[signs_of r f (k+1) (acc++[1+(i-1)]) K (fun x hx=>hb x (List.mem_cons_of_mem _ hx)) (by simp at hf;omega) a4];rw[show 1+(i-1)=i by omega,List.length_cons,show k+(r.length+1)+1=k+1+r.length+1 by omega];simp
def fordsT(l:List (List UInt8 × Ord)):KT:=(fordsK l).flatMap Prod.snd
theorem fordsT_cons(x:List UInt8 × Ord)(r:List (List UInt8 × Ord)):fordsT (x :: r)=(1,x.1) :: (x.2.kt++fordsT r):=by simp[fordsT,fordsK,Ord.kt,nmK]
theorem fords_of{p:PE}:∀(l:List (List UInt8 × Ord))(f k:Nat)(acc:List (List UInt8 × Ord))(s:List UInt8)(K:KT),(∀x∈l,isName x.1=true∧x.2.ofm 0=true)→l.length<f→(acc≠[]∨l≠[])→At p k (fordsT l++(2,s) :: K)→ordersF p f k acc=.ok (acc++l) (k+(fordsT l).length)∧At p (k+(fordsT l).length) ((2,s) :: K)
 |[],f+1,k,acc,s,K,_,_,hne,hA=>by
  obtain⟨_,a2,_,_⟩:=At.head (show At p k ((2,s) :: K) from hA);have hne':acc≠[]:=hne.elim id (fun h=>absurd rfl h);rw[ordersF,isNm_two a2,if_neg (by simp[hne'])];exact⟨by simp[fordsT,fordsK],hA⟩
 |x :: r,f+1,k,acc,s,K,hb,hf,_,hA=>by
  rw[fordsT_cons] at hA ⊢;simp only[List.append_assoc,List.cons_append] at hA;obtain⟨_,a2,a3,a4⟩:=hA.head;obtain⟨hn,ho⟩:=hb x List.mem_cons_self;obtain⟨e1,b4⟩:=ord_of ho a4;rw[ordersF,if_pos (.inr (isNm_of hn a2 a3)),name_of hn a2 a3,PR.then_okE,e1,PR.then_okE];obtain⟨e,h⟩:=fords_of r f (k+1+x.2.kt.length) (acc++[(x.1,x.2)]) s K (fun y hy=>hb y (List.mem_cons_of_mem _ hy)) (by simp at hf;omega) (.inl (by simp)) b4;rw[e,List.length_cons,List.length_append,show k+(x.2.kt.length+(fordsT r).length+1)=k+1+x.2.kt.length+(fordsT r).length by omega];exact⟨by simp,h⟩
theorem blank_of{x:Itm}(h:x.blank=true):x.type=[]∧x.value=[]∧x.som=[]∧x.params=[]∧x.blocks=[]∧x.fams=[]∧x.signs=[]∧x.orders=[]∧x.name=[]∧x.op=⟨[],0,0⟩∧x.left=Ord.nil∧x.right=Ord.nil∧x.rel=0∧x.count=0:=by
 obtain⟨kind,pos,name,type,value,⟨on,of,op⟩,som,params,blocks,fams,signs,orders,⟨lk,la,lp⟩,⟨rk,ra,rp⟩,rel,count⟩:=x;simp only[Itm.blank,Itm.lens,Ord.no,Bool.and_eq_true,decide_eq_true_eq] at h;obtain⟨⟨⟨⟨⟨⟨h0,h1⟩,⟨h2,h3⟩,h4⟩,⟨h5,h6⟩,h7⟩,⟨h8,h9⟩,h10⟩,h11⟩,h12⟩:=h;subst h1 h2 h3 h4 h5 h6 h8 h9 h11 h12;have h0:=of_decide_eq_true h0;have nl:∀{α:Type}(l:List α),l.length≤0→l=[]:=fun l hl=>List.eq_nil_of_length_eq_zero (by omega);refine⟨nl type (by omega),nl value (by omega),nl som (by omega),nl params (by omega),nl blocks (by omega),nl fams (by omega),nl signs (by omega),nl orders (by omega),rfl,rfl,?_,?_,rfl,rfl⟩
 ·rw[List.eq_nil_of_length_eq_zero h7];rfl
 rw[List.eq_nil_of_length_eq_zero h10];rfl
theorem item_dir{p:PE}{b k:Nat}{w:List UInt8}{i:Int}(hb:b≠512)(h1:(p.pk k).kind=3)(h2:(p.pk k).text=w)(hi:idxW w dirs=i)(h0:0≤i):p.itemP b k=p.dirP i (Itm.new (p.pk k).pos) (k+1):=by
 unfold PE.itemP;rw[if_neg hb,if_pos h1,h2,hi,if_neg (by omega)]
def ReadAs(p:PE)(q:List (List UInt8))(x:Itm)(b k:Nat):Prop:=∃y,p.itemP b k=.ok (y,if x.kind=3 then(added p.ops x.op).1 else p.ops) (k+(x.kts q).length)∧y.strip=x.strip
abbrev op0:Op:=⟨[],0,0⟩
theorem read_named{p:PE}{q:List (List UInt8)}{b k ps:Nat}{n:List UInt8}{K:KT}{w:List UInt8}{kd i:Int}(hb:b≠512)(hx:(⟨kd,ps,n,[],[],op0,[],[],[],[],[],[],Ord.nil,Ord.nil,0,0⟩:Itm).wk q=[diK w,nmK n])(hk3:kd≠3)(hn:isName n=true)(hi:idxW w dirs=i)(h0:0≤i)(hd:p.dirP i=p.namedP kd)(hA:At p k ((⟨kd,ps,n,[],[],op0,[],[],[],[],[],[],Ord.nil,Ord.nil,0,0⟩:Itm).kts q++K)):ReadAs p q ⟨kd,ps,n,[],[],op0,[],[],[],[],[],[],Ord.nil,Ord.nil,0,0⟩ b k:=by
 unfold ReadAs;unfold Itm.kts at hA ⊢;rw[hx] at hA ⊢;simp only[diK,nmK,List.flatMap_cons,List.flatMap_nil,List.append_assoc,List.cons_append,List.nil_append] at hA;obtain⟨_,a2,a3,a4⟩:=hA.head;obtain⟨_,b2,b3,b4⟩:=a4.head;obtain⟨_,c2,c3,c4⟩:=b4.head;rw[item_dir hb a2 a3 hi h0,hd];unfold PE.namedP;rw[name_of hn b2 b3,PR.then_okE,punct_ok' c2 c3,PR.then_okE,if_neg hk3];exact⟨_,rfl,rfl⟩
theorem item_decl{p:PE}{b k:Nat}{n:List UInt8}(hb:b≠512)(hn:isName n=true)(a2:(p.pk k).kind=1)(a3:(p.pk k).text=n):p.itemP b k=p.declP (Itm.new (p.pk k).pos) k:=by
 unfold PE.itemP;rw[if_neg hb,a2,if_neg (by decide),isNm_of hn a2 a3,if_pos rfl]
theorem read_const{p:PE}{q:List (List UInt8)}(hg:Good p q){b k ps:Nat}{n:List UInt8}{t:Raw}{K:KT}(hb:b≠512)(hn:isName n=true)(hw:t.wf=0)(hA:At p k ((⟨1,ps,n,[t],[],op0,[],[],[],[],[],[],Ord.nil,Ord.nil,0,0⟩:Itm).kts q++K)):ReadAs p q ⟨1,ps,n,[t],[],op0,[],[],[],[],[],[],Ord.nil,Ord.nil,0,0⟩ b k:=by
 have hx:(⟨1,ps,n,[t],[],op0,[],[],[],[],[],[],Ord.nil,Ord.nil,0,0⟩:Itm).wk q=[nmK n,puK 58,trK q t]:=rfl;unfold ReadAs;unfold Itm.kts at hA ⊢;rw[hx] at hA ⊢;simp only[nmK,puK,trK,List.flatMap_cons,List.flatMap_nil,List.append_assoc,List.cons_append,List.nil_append] at hA ⊢;obtain⟨_,a2,a3,a4⟩:=hA.head;obtain⟨_,b2,b3,b4⟩:=a4.head;obtain⟨u,e,hu,c4⟩:=expr_of hg hw (.inl rfl) b4;obtain⟨_,d2,d3,_⟩:=c4.head;rw[item_decl hb hn a2 a3];unfold PE.declP;rw[name_of hn a2 a3,PR.then_okE,is_true b2 b3,if_pos rfl,e,PR.then_okE,is_false d3 (by decide),if_neg (by simp),punct_ok' d2 d3,PR.then_okE];refine⟨{ Itm.new (p.pk k).pos with kind:=1,name:=n,type:=[u] },?_,by simp[Itm.strip,Itm.new,hu]⟩;rw[if_neg (by decide)];simp only[List.length_cons,List.length_append,List.length_nil]
 congr 1;omega
theorem read_def1{p:PE}{q:List (List UInt8)}(hg:Good p q){b k ps:Nat}{n:List UInt8}{v:Raw}{K:KT}(hb:b≠512)(hn:isName n=true)(hw:v.wf=0)(hA:At p k ((⟨2,ps,n,[],[v],op0,[],[],[],[],[],[],Ord.nil,Ord.nil,0,0⟩:Itm).kts q++K)):ReadAs p q ⟨2,ps,n,[],[v],op0,[],[],[],[],[],[],Ord.nil,Ord.nil,0,0⟩ b k:=by
 have hx:(⟨2,ps,n,[],[v],op0,[],[],[],[],[],[],Ord.nil,Ord.nil,0,0⟩:Itm).wk q=[nmK n,puK 61,trK q v]:=rfl;unfold ReadAs;unfold Itm.kts at hA ⊢;rw[hx] at hA ⊢;simp only[nmK,puK,trK,List.flatMap_cons,List.flatMap_nil,List.append_assoc,List.cons_append,List.nil_append] at hA ⊢;obtain⟨_,a2,a3,a4⟩:=hA.head;obtain⟨_,b2,b3,b4⟩:=a4.head;obtain⟨u,e,hu,c4⟩:=expr_of hg hw (.inl rfl) b4;obtain⟨_,d2,d3,_⟩:=c4.head;rw[item_decl hb hn a2 a3];unfold PE.declP;rw[name_of hn a2 a3,PR.then_okE,is_false b3 (by decide),if_neg (by simp),punct_ok' b2 b3,PR.then_okE,e,PR.then_okE,punct_ok' d2 d3,PR.then_okE];refine⟨{ Itm.new (p.pk k).pos with kind:=2,name:=n,value:=[u] },?_,by simp[Itm.strip,Itm.new,hu]⟩;rw[if_neg (by decide)];simp only[List.length_cons,List.length_append,List.length_nil]
 congr 1;omega
theorem read_def2{p:PE}{q:List (List UInt8)}(hg:Good p q){b k ps:Nat}{n:List UInt8}{t v:Raw}{K:KT}(hb:b≠512)(hn:isName n=true)(hw:t.wf=0)(hw':v.wf=0)(hA:At p k ((⟨2,ps,n,[t],[v],op0,[],[],[],[],[],[],Ord.nil,Ord.nil,0,0⟩:Itm).kts q++K)):ReadAs p q ⟨2,ps,n,[t],[v],op0,[],[],[],[],[],[],Ord.nil,Ord.nil,0,0⟩ b k:=by
 have hx:(⟨2,ps,n,[t],[v],op0,[],[],[],[],[],[],Ord.nil,Ord.nil,0,0⟩:Itm).wk q=[nmK n,puK 58,trK q t,puK 61,trK q v]:=rfl;unfold ReadAs;unfold Itm.kts at hA ⊢;rw[hx] at hA ⊢;simp only[nmK,puK,trK,List.flatMap_cons,List.flatMap_nil,List.append_assoc,List.cons_append,List.nil_append] at hA ⊢;obtain⟨_,a2,a3,a4⟩:=hA.head;obtain⟨_,b2,b3,b4⟩:=a4.head;obtain⟨u,e,hu,c4⟩:=expr_of hg hw (.inr (.inl rfl)) b4;obtain⟨_,d2,d3,d4⟩:=c4.head;obtain⟨u',e',hu',f4⟩:=expr_of hg hw' (.inl rfl) d4;obtain⟨_,g2,g3,_⟩:=f4.head;rw[item_decl hb hn a2 a3];unfold PE.declP;rw[name_of hn a2 a3,PR.then_okE,is_true b2 b3,if_pos rfl,e,PR.then_okE,is_true d2 d3,if_pos rfl,punct_ok' d2 d3,PR.then_okE,e',PR.then_okE,punct_ok' g2 g3,PR.then_okE];refine⟨{ Itm.new (p.pk k).pos with kind:=2,name:=n,type:=[u],value:=[u'] },?_,by simp[Itm.strip,Itm.new,hu,hu']⟩;rw[if_neg (by decide)];simp only[List.length_cons,List.length_append,List.length_nil]
 congr 1;omega
theorem read_query{p:PE}{q:List (List UInt8)}(hg:Good p q){b k ps c:Nat}{t:Raw}{K:KT}(hb:b≠512)(hc:c≤1000)(hw:t.wf=0)(hA:At p k ((⟨13,ps,[],[t],[],op0,[],[],[],[],[],[],Ord.nil,Ord.nil,0,c⟩:Itm).kts q++K)):ReadAs p q ⟨13,ps,[],[t],[],op0,[],[],[],[],[],[],Ord.nil,Ord.nil,0,c⟩ b k:=by
 have hx:(⟨13,ps,[],[t],[],op0,[],[],[],[],[],[],Ord.nil,Ord.nil,0,c⟩:Itm).wk q=[diK [113,117,101,114,121],nmK (dec c),trK q t]:=rfl;unfold ReadAs;unfold Itm.kts at hA ⊢;rw[hx] at hA ⊢;simp only[diK,nmK,puK,trK,List.flatMap_cons,List.flatMap_nil,List.append_assoc,List.cons_append,List.nil_append] at hA ⊢;obtain⟨_,a2,a3,a4⟩:=hA.head;obtain⟨_,b2,b3,b4⟩:=a4.head;obtain⟨u,e,hu,c4⟩:=expr_of hg hw (.inl rfl) b4;obtain⟨_,d2,d3,_⟩:=c4.head;rw[item_dir hb a2 a3 (i:=12) (by decide) (by decide)];show ∃y,p.queryP _ _=_∧_;unfold PE.queryP;rw[number_of hc b2 b3 (by omega) (by omega),PR.then_okE,e,PR.then_okE,punct_ok' d2 d3,PR.then_okE];refine⟨{ Itm.new (p.pk k).pos with kind:=13,count:=c,type:=[u] },?_,by simp[Itm.strip,Itm.new,hu]⟩;rw[if_neg (by decide)];simp only[List.length_cons,List.length_append,List.length_nil]
 congr 1;omega
theorem read_op{p:PE}{q:List (List UInt8)}{b k ps:Nat}{n:List UInt8}{f c:Int}{K:KT}(hb:b≠512)(ha:(added p.ops ⟨n,f,c⟩).2=0)(hA:At p k ((⟨3,ps,[],[],[],⟨n,f,c⟩,[],[],[],[],[],[],Ord.nil,Ord.nil,0,0⟩:Itm).kts q++K)):ReadAs p q ⟨3,ps,[],[],[],⟨n,f,c⟩,[],[],[],[],[],[],Ord.nil,Ord.nil,0,0⟩ b k:=by
 have hbad:(⟨n,f,c⟩:Op).bad=0:=by
  unfold added at ha;split at ha
  ·exact absurd ha (by assumption)
  rename_i h;exact Decidable.not_not.1 h
 have hop:isName n=true∧1≤f∧f≤5∧0≤c∧c≤99:=by
  unfold Op.bad at hbad;split at hbad
  ·cases hbad
  rename_i h;split at hbad
  ·cases hbad
  rename_i h';simp only[Bool.or_eq_true,Bool.not_eq_true',decide_eq_true_eq,not_or] at h h';refine⟨by simpa using h.1.1,by omega,by omega,by omega,by omega⟩
 obtain⟨hn,hf1,hf5,hc0,hc9⟩:=hop;have hx:(⟨3,ps,[],[],[],⟨n,f,c⟩,[],[],[],[],[],[],Ord.nil,Ord.nil,0,0⟩:Itm).wk q=[fixK f,nmK (dec c.toNat),nmK n]:=rfl;unfold ReadAs;unfold Itm.kts at hA ⊢;rw[hx] at hA ⊢;have hop:∀k',At p k' ((1,dec c.toNat) :: (1,n) :: (2,[46]) :: K)→p.opP (Itm.new (p.pk k).pos) f k'=.ok ({ Itm.new (p.pk k).pos with kind:=3,op:=⟨n,f,c⟩ },(added p.ops ⟨n,f,c⟩).1) (k'+1+1+1):=fun k' h=>by
  obtain⟨_,a2,a3,a4⟩:=h.head;obtain⟨_,b2,b3,b4⟩:=a4.head;obtain⟨_,c2,c3,_⟩:=b4.head;unfold PE.opP;rw[number_of (n:=c.toNat) (by omega) a2 a3 (by omega) (by omega),PR.then_okE,name_of hn b2 b3,PR.then_okE,punct_ok' c2 c3,PR.then_okE,show((c.toNat:Nat):Int)=c by omega,if_neg (by simp[ha])]
 refine⟨{ Itm.new (p.pk k).pos with kind:=3,op:=⟨n,f,c⟩ },?_,by simp[Itm.strip,Itm.new]⟩;rw[if_pos rfl];have key:∀(w:List UInt8)(i:Int),(fixK f).2=[(3,[105,110,102,105,120]),(1,w)]→idxW w fixes=i→0≤i→3+i=f→p.itemP b k=.ok ({ Itm.new (p.pk k).pos with kind:=3,op:=⟨n,f,c⟩ },(added p.ops ⟨n,f,c⟩).1) (k+(([fixK f,nmK (dec c.toNat),nmK n].flatMap Prod.snd)++[((2:Int),[(46:UInt8)])]).length):=fun w i e hi h0 h3=>by
  simp only[List.flatMap_cons,e,nmK,List.flatMap_nil,List.append_assoc,List.cons_append,List.nil_append] at hA ⊢;obtain⟨_,a2,a3,a4⟩:=hA.head;obtain⟨_,b2,b3,b4⟩:=a4.head;rw[item_dir hb a2 a3 (i:=0) (by decide) (by decide)];show p.infixP _ _=_;unfold PE.infixP;rw[word_of b2 b3 hi h0,PR.then_okE,h3];exact hop _ b4
 have hf:f=1∨f=2∨f=3∨f=4∨f=5:=by omega
 rcases hf with rfl | rfl | rfl | rfl | rfl
 ·have:fixK 1=diK [112,114,101,102,105,120]:=rfl;rw[this] at hA ⊢;simp only[diK,nmK,List.flatMap_cons,List.flatMap_nil,List.append_assoc,List.cons_append,List.nil_append] at hA ⊢;obtain⟨_,a2,a3,a4⟩:=hA.head;rw[item_dir hb a2 a3 (i:=1) (by decide) (by decide)];exact hop _ a4
 ·have:fixK 2=diK [112,111,115,116,102,105,120]:=rfl;rw[this] at hA ⊢;simp only[diK,nmK,List.flatMap_cons,List.flatMap_nil,List.append_assoc,List.cons_append,List.nil_append] at hA ⊢;obtain⟨_,a2,a3,a4⟩:=hA.head;rw[item_dir hb a2 a3 (i:=2) (by decide) (by decide)];exact hop _ a4
 ·exact key [110,111,110,101] 0 rfl (by decide) (by decide) (by decide)
 ·exact key [108,101,102,116] 1 rfl (by decide) (by decide) (by decide)
 exact key [114,105,103,104,116] 2 rfl (by decide) (by decide) (by decide)
end Lfc
