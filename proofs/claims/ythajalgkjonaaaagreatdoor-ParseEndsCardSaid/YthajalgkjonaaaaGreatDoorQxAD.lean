/- Parts of the proof that no input makes the law false: PaItB,PaSim,PaSim2. -/
import Derived.Test.YthajalgkjonaaaaGreatDoorQxAA
import Derived.Test.YthajalgkjonaaaaGreatDoorQxAC
set_option linter.unusedVariables false
set_option linter.unusedSimpArgs false
namespace Lfc
theorem PR.then_okE{α β:Type}(x:α)(k:Nat)(f:α→Nat→PR β):(PR.ok x k).then f=f x k:=rfl
theorem PR.then_errE{α β:Type}(c:Int)(a:Nat)(f:α→Nat→PR β):(PR.err c a:PR α).then f=.err c a:=rfl
theorem PR.cases{α:Type}{r:PR α}(h:r≠.out):(∃c a,r=.err c a)∨∃x k,r=.ok x k:=by
 cases r with
 |out=>exact absurd rfl h
 |err c a=>exact .inl ⟨c,a,rfl⟩
 |ok x k=>exact .inr ⟨x,k,rfl⟩
def Fair{α:Type}(s:Nat)(p:PE)(k:Nat)(r:PR α):Prop:=r≠.out∧NzE r∧∀x k',r=.ok x k'→k+s≤k'∧k'≤p.toks.length
theorem Fair.ok{α:Type}{p:PE}{k:Nat}(x:α)(hk:k≤p.toks.length):Fair 0 p k (.ok x k):=⟨by simp,NzE.ok _ _,fun y k' e=>by cases e;exact⟨Nat.le_refl _,hk⟩⟩
theorem Fair.okn{α:Type}{p:PE}{k k1 s:Nat}(x:α)(h:k+s≤k1)(hk:k1≤p.toks.length):Fair s p k (.ok x k1):=⟨by simp,NzE.ok _ _,fun y k' e=>by cases e;exact⟨h,hk⟩⟩
theorem Fair.err{α:Type}{p:PE}{k s:Nat}{c:Int}(a:Nat)(hc:c≠0):Fair s p k (.err c a:PR α):=⟨by simp,fun c' a' e=>by cases e;exact hc,fun y k' e=>by cases e⟩
theorem Fair.weak{α:Type}{p:PE}{k s s':Nat}{r:PR α}(h:Fair s p k r)(hs:s'≤s):Fair s' p k r:=⟨h.1,h.2.1,fun x k' e=>⟨by have:=(h.2.2 x k' e).1;omega,(h.2.2 x k' e).2⟩⟩
theorem Fair.then{α β:Type}{p:PE}{k s:Nat}{r:PR α}{f:α→Nat→PR β}(h:Fair s p k r)(hf:∀x k1,k+s≤k1→k1≤p.toks.length→Fair 0 p k1 (f x k1)):Fair s p k (r.then f):=by
 obtain⟨h1,h2,h3⟩:=h
 cases r with
 |out=>exact absurd rfl h1
 |err c a=>exact⟨by simp[PR.then],fun c' a' e=>h2 c' a' (by simpa[PR.then] using e),fun x k' e=>by cases e⟩
 |ok x k1 =>
  obtain⟨h4,h5⟩:=h3 x k1 rfl
  have:=hf x k1 h4 h5
  exact⟨this.1,this.2.1,fun y k' e=>⟨by have:=(this.2.2 y k' e).1;omega,(this.2.2 y k' e).2⟩⟩
theorem Fair.unexp{α:Type}(p:PE)(k s:Nat):Fair s p k (p.unexp k:PR α):=⟨p.unexp_ne k,nz_unexp p k,fun x k' e=>(PE.unexp_ok e).elim⟩
theorem fair_punct(p:PE)(k:Nat)(s:List UInt8):Fair 1 p k (p.punct k s):=⟨punct_ne p k s,nz_punct p k s,fun x k' e=>by have:=PE.punct_ok e;omega⟩
theorem fair_name(p:PE)(k:Nat):Fair 1 p k (p.name k):=⟨name_neo p k,nz_name p k,fun x k' e=>by have:=PE.name_ok e;omega⟩
theorem fair_expr(p:PE)(k:Nat)(hk:k≤p.toks.length):Fair 1 p k (p.expr k):=⟨expr_ne p k,nz_expr p k,fun x k' e=>by have:=exprG_b (opdF_b p _) e;omega⟩
theorem fair_number(p:PE)(k:Nat)(a b:Int):Fair 1 p k (p.number k a b):=by
 unfold PE.number
 split
 ·exact Fair.unexp p k 1
 ·rename_i h
  have:=p.pk_lt (k:=k) (by intro e;exact h (.inl (by omega)))
  exact Fair.okn _ (Nat.le_refl _) this
theorem fair_word(p:PE)(k:Nat)(ws:List (List UInt8)):Fair 1 p k (p.word k ws):=by
 unfold PE.word
 split
 ·exact Fair.unexp p k 1
 ·rename_i h
  have:=p.pk_lt (k:=k) (by intro e;exact h (.inr (by omega)))
  exact Fair.okn _ (Nat.le_refl _) this
theorem is_ltk{p:PE}{k:Nat}{kd:Int}{s:List UInt8}(hkd:kd≠0)(h:p.is k kd s=true):k<p.toks.length:=by
 unfold PE.is at h
 simp only[Bool.and_eq_true,decide_eq_true_eq] at h
 exact p.pk_lt (by omega)
theorem fair_decl(p:PE)(it:Itm)(k:Nat):Fair 1 p k (p.declP it k):=by
 unfold PE.declP
 refine(fair_name p k).then fun n k1 _ h1=>?_
 split
 ·rename_i h
  have hl:=PE.is_lt h
  refine(Fair.then (k:=k1+1) (fair_expr p _ hl) fun t k2 _ h2=>?_) |> fun H=>(show Fair 0 p k1 _ from⟨H.1,H.2.1,fun x k' e=>⟨by have:=(H.2.2 x k' e).1;omega,(H.2.2 x k' e).2⟩⟩)
  split
  ·refine((fair_punct p k2 _).then fun _ k3 _ h3=>((fair_expr p k3 h3).then fun v k4 _ h4=>((fair_punct p k4 _).then fun _ k5 _ h5=>Fair.ok _ h5).weak (Nat.zero_le _)).weak (Nat.zero_le _)).weak (Nat.zero_le _)
  ·exact((fair_punct p k2 _).then fun _ k3 _ h3=>Fair.ok _ h3).weak (Nat.zero_le _)
 ·exact((fair_punct p k1 _).then fun _ k3 _ h3=>((fair_expr p k3 h3).then fun v k4 _ h4=>((fair_punct p k4 _).then fun _ k5 _ h5=>Fair.ok _ h5).weak (Nat.zero_le _)).weak (Nat.zero_le _)).weak (Nat.zero_le _)
theorem fair_op(p:PE)(it:Itm)(fix:Int)(k:Nat):Fair 1 p k (p.opP it fix k):=by
 unfold PE.opP
 refine(fair_number p k _ _).then fun c k1 _ h1=>((fair_name p k1).then fun n k2 _ h2=>((fair_punct p k2 _).then fun _ k3 _ h3=>?_).weak (Nat.zero_le _)).weak (Nat.zero_le _)
 split
 ·rename_i h
  exact Fair.err _ h
 ·exact Fair.ok _ h3
theorem fair_infix(p:PE)(it:Itm)(k:Nat):Fair 1 p k (p.infixP it k):=(fair_word p k _).then fun i k1 _ h1=>(fair_op p it _ k1).weak (Nat.zero_le _)
theorem fair_named(p:PE)(kd:Int)(it:Itm)(k:Nat):Fair 1 p k (p.namedP kd it k):=(fair_name p k).then fun n k1 _ h1=>((fair_punct p k1 _).then fun _ k2 _ h2=>Fair.ok _ h2).weak (Nat.zero_le _)
theorem fair_query(p:PE)(it:Itm)(k:Nat):Fair 1 p k (p.queryP it k):=(fair_number p k _ _).then fun c k1 _ h1=>((fair_expr p k1 h1).then fun t k2 _ h2=>((fair_punct p k2 _).then fun _ k3 _ h3=>Fair.ok _ h3).weak (Nat.zero_le _)).weak (Nat.zero_le _)
theorem fair_bindersF(p:PE):∀(f k:Nat)(acc:List Bnd),p.toks.length<f+k→k≤p.toks.length→Fair 1 p k (bindersF p f k acc)
 |0,k,acc,hf,hk=>by omega
 |f+1,k,acc,hf,hk=>by
  rw[bindersF]
  refine(fair_punct p k _).then fun _ k1 g1 h1=>((fair_name p k1).then fun n k2 g2 h2=>((fair_punct p k2 _).then fun _ k3 g3 h3=>((fair_expr p k3 h3).then fun t k4 g4 h4=>((fair_punct p k4 _).then fun _ k5 g5 h5=>?_).weak (Nat.zero_le _)).weak (Nat.zero_le _)).weak (Nat.zero_le _)).weak (Nat.zero_le _)
  split
  ·exact(fair_bindersF p f k5 _ (by omega) h5).weak (Nat.zero_le _)
  ·exact Fair.ok _ h5
theorem fair_binders(p:PE)(k:Nat)(hk:k≤p.toks.length):Fair 1 p k (p.binders k):=fair_bindersF p _ k [] (by omega) hk
theorem fair_block(p:PE)(it:Itm)(k:Nat):Fair 1 p k (p.blockP it k):=by
 unfold PE.blockP
 refine(fair_name p k).then fun n k1 _ h1=>((fair_punct p k1 _).then fun _ k2 _ h2=>(Fair.then ?_ fun s k3 _ h3=>((fair_word p k3 _).then fun _ k4 _ h4=>((fair_binders p k4 h4).then fun q k5 _ h5=>((fair_punct p k5 _).then fun _ k6 _ h6=>Fair.ok _ h6).weak (Nat.zero_le _)).weak (Nat.zero_le _)).weak (Nat.zero_le _))).weak (Nat.zero_le _)
 split
 ·rename_i h
  have H:=fair_binders p (k2+1) (is_ltk (by decide) h)
  exact⟨H.1,H.2.1,fun x k' e=>by have:=H.2.2 x k' e;omega⟩
 ·exact Fair.ok _ h2
theorem fair_barsF(p:PE):∀(f k:Nat)(acc:List (List UInt8)),p.toks.length<f+k→k≤p.toks.length→Fair 0 p k (barsF p f k acc)
 |0,k,acc,hf,hk=>by omega
 | f + 1, k, acc, hf, hk => by
  rw[barsF]
  split
  ·have H:=(fair_name p (k+1)).then fun n k1 g1 h1=>fair_barsF p f k1 (acc++[n]) (by omega) h1
   exact⟨H.1,H.2.1,fun x k' e=>by have:=H.2.2 x k' e;omega⟩
  ·exact Fair.ok _ hk
theorem fair_namesF(p:PE):∀(f k:Nat)(acc:List (List UInt8)),p.toks.length<f+k→k≤p.toks.length→Fair 0 p k (namesF p f k acc)
 |0,k,acc,hf,hk=>by omega
 |f+1,k,acc,hf,hk=>by
  rw[namesF]
  split
  ·exact((fair_name p k).then fun n k1 g1 h1=>fair_namesF p f k1 (acc++[n]) (by omega) h1).weak (Nat.zero_le _)
  ·exact Fair.ok _ hk
theorem fair_worlds(p:PE)(it:Itm)(k:Nat):Fair 1 p k (p.worldsP it k):=by
 unfold PE.worldsP
 refine(fair_punct p k _).then fun _ k1 _ h1=>(Fair.then ?_ fun bs k2 _ h2=>((fair_punct p k2 _).then fun _ k3 _ h3=>((fair_name p k3).then fun n k4 _ h4=>((fair_namesF p _ k4 _ (by omega) h4).then fun fs k5 _ h5=>((fair_punct p k5 _).then fun _ k6 _ h6=>Fair.ok _ h6).weak (Nat.zero_le _)).weak (Nat.zero_le _)).weak (Nat.zero_le _)).weak (Nat.zero_le _))
 split
 ·exact((fair_name p k1).then fun n k2 _ h2=>fair_barsF p _ k2 _ (by omega) h2).weak (Nat.zero_le _)
 ·exact Fair.ok _ h1
theorem fair_signsF(p:PE):∀(f k:Nat)(acc:List Int),p.toks.length<f+k→k≤p.toks.length→Fair 1 p k (signsF p f k acc)
 |0,k,acc,hf,hk=>by omega
 | f + 1, k, acc, hf, hk => by
  rw[signsF]
  split
  ·rename_i h
   exact Fair.okn _ (Nat.le_refl _) (PE.is_lt h)
  ·exact(fair_word p k _).then fun i k1 g1 h1=>(fair_signsF p f k1 _ (by omega) h1).weak (Nat.zero_le _)
theorem fair_mode(p:PE)(it:Itm)(k:Nat):Fair 1 p k (p.modeP it k):=(fair_name p k).then fun n k1 _ h1=>((fair_signsF p _ k1 [] (by omega) h1).then fun l k2 _ h2=>Fair.ok _ h2).weak (Nat.zero_le _)
theorem fair_partsF(p:PE)(g:Nat→PR Ord)(hg:∀k,k≤p.toks.length→Fair 1 p k (g k))(e:List UInt8):∀(f k:Nat)(acc:List Ord),p.toks.length<f+k→k≤p.toks.length→Fair 0 p k (partsF p g e f k acc)∧∀l k',partsF p g e f k acc=.ok l k'→k'<p.toks.length
 |0,k,acc,hf,hk=>by omega
 | f + 1, k, acc, hf, hk => by
  rw[partsF]
  split
  ·rename_i h
   have:=PE.is_lt h.2
   exact⟨Fair.ok _ hk,fun l k' e=>by cases e;exact this⟩
  ·refine⟨((hg k hk).then fun x k1 g1 h1=>(fair_partsF p g hg e f k1 _ (by omega) h1).1).weak (Nat.zero_le _),fun l k' e'=>?_⟩
   obtain⟨x,k1,e1,e2⟩:=PR.then_ok e'
   have:=(hg k hk).2.2 _ _ e1
   exact(fair_partsF p g hg e f k1 _ (by omega) this.2).2 _ _ e2
theorem fair_orderF(p:PE):∀(f o k:Nat),128≤f+o→k≤p.toks.length→o<128→Fair 1 p k (p.orderF f o k)
 |0,o,k,hf,hk,ho=>by omega
 | f + 1, o, k, hf, hk, ho => by
  have br:∀(c:Int)(e:List UInt8),k<p.toks.length→Fair 1 p k (if o+1=128 then .err 2 (p.pk k).pos else(partsF p (p.orderF f (o+1)) e (p.toks.length+1) (k+1) []).then fun l k1=>(.ok (Ord.node c 0 l) (k1+1):PR Ord)):=by
   intro c e hl
   split
   ·exact Fair.err _ (by decide)
   ·rename_i hne
    obtain⟨h1,h2⟩:=fair_partsF p (p.orderF f (o+1)) (fun k hk=>fair_orderF p f (o+1) k (by omega) hk (by omega)) e (p.toks.length+1) (k+1) [] (by omega) hl
    cases hr:partsF p (p.orderF f (o+1)) e (p.toks.length+1) (k+1) [] with
    |out=>exact absurd hr h1.1
    |err c' a=>rw[hr] at h1;exact Fair.err _ (h1.2.1 _ _ rfl)
    |ok l k1 =>
     have h3:=h2 _ _ hr
     have h4:=h1.2.2 _ _ hr
     exact Fair.okn _ (by omega) h3
  rw[PE.orderF]
  split
  ·rename_i h
   exact br 3 _ (PE.is_lt h)
  ·split
   ·rename_i h
    exact br 2 _ (PE.is_lt h)
   ·exact(fair_number p k _ _).then fun n k1 _ h1=>Fair.ok _ h1
theorem fair_order(p:PE)(k:Nat)(hk:k≤p.toks.length):Fair 1 p k (p.order k):=fair_orderF p 128 0 k (by decide) hk (by decide)
theorem fair_ordersF(p:PE):∀(f k:Nat)(acc:List (List UInt8 × Ord)),p.toks.length<f+k→k≤p.toks.length→Fair 0 p k (ordersF p f k acc)
 |0,k,acc,hf,hk=>by omega
 |f+1,k,acc,hf,hk=>by
  rw[ordersF]
  split
  ·exact((fair_name p k).then fun n k1 g1 h1=>((fair_order p k1 h1).then fun o k2 g2 h2=>fair_ordersF p f k2 _ (by omega) h2).weak (Nat.zero_le _)).weak (Nat.zero_le _)
  ·exact Fair.ok _ hk
theorem fair_orders(p:PE)(kd:Int)(it:Itm)(k:Nat)(hk:k≤p.toks.length):Fair 1 p k (p.ordersP kd it k):=by
 have h:=fair_ordersF p (p.toks.length+1) k [] (by omega) hk
 unfold PE.ordersP
 rw[ordersF,if_pos (.inl rfl)]
 refine Fair.then ((fair_name p k).then fun n k1 g1 h1=>((fair_order p k1 h1).then fun o k2 g2 h2=>fair_ordersF p _ k2 _ (by omega) h2).weak (Nat.zero_le _)) fun l k1 _ h1=>((fair_punct p k1 _).then fun _ k2 _ h2=>Fair.ok _ h2).weak (Nat.zero_le _)
theorem fair_reduces(p:PE)(it:Itm)(k:Nat):Fair 1 p k (p.reducesP it k):=by
 unfold PE.reducesP
 refine(fair_name p k).then fun n k1 _ h1=>((fair_order p k1 h1).then fun a k2 _ h2=>(Fair.then ?_ fun r k3 _ h3=>((fair_order p k3 h3).then fun b k4 _ h4=>((fair_punct p k4 _).then fun _ k5 _ h5=>Fair.ok _ h5).weak (Nat.zero_le _)).weak (Nat.zero_le _))).weak (Nat.zero_le _)
 split
 ·rename_i h
  exact Fair.okn _ (by omega) (PE.is_lt h)
 ·exact((fair_word p k2 _).then fun i k3 _ h3=>Fair.ok _ h3).weak (Nat.zero_le _)
theorem fair_dir(p:PE)(i:Int)(it:Itm)(k:Nat)(hk:k≤p.toks.length):Fair 1 p k (p.dirP i it k):=by
 unfold PE.dirP
 split <;> first | exact fair_infix p it k | exact fair_op p it _ k | exact fair_block p it k | exact fair_worlds p it k | exact fair_mode p it k | exact fair_named p _ it k | exact fair_orders p _ it k hk | exact fair_reduces p it k | exact fair_query p it k
theorem fair_item(p:PE)(n k:Nat):Fair 1 p k (p.itemP n k):=by
 unfold PE.itemP
 split
 ·exact Fair.err _ (by decide)
 ·split
  ·rename_i h
   have hl:=p.pk_lt (k:=k) (by omega)
   split
   ·exact Fair.err _ (by decide)
   ·have H:=fair_dir p (idxW (p.pk k).text dirs) (Itm.new (p.pk k).pos) (k+1) hl
    exact⟨H.1,H.2.1,fun x k' e=>by have:=H.2.2 x k' e;omega⟩
  ·split
   ·exact fair_decl p _ k
   ·exact Fair.unexp p k 1
theorem fair_itemsF(toks:List Tok)(n:Nat):∀(f k:Nat)(l:List Op)(acc:List Itm),toks.length<f+k→k≤toks.length→itemsF toks n f k l acc≠.out∧NzE (itemsF toks n f k l acc)∧∀x k',itemsF toks n f k l acc=.ok x k'→k'=toks.length
 |0,k,l,acc,hf,hk=>by omega
 | f + 1, k, l, acc, hf, hk => by
  rw[itemsF]
  split
  ·rename_i hlt
   have h:=fair_item ⟨toks,n,l⟩ acc.length k
   cases hr:PE.itemP ⟨toks,n,l⟩ acc.length k with
   |out=>exact absurd hr h.1
   |err c a =>
    rw[hr] at h
    exact⟨by simp[PR.then],fun c' a' e=>h.2.1 c' a' (by simpa[PR.then] using e),fun x k' e=>by cases e⟩
   |ok x k1 =>
    have h1:=h.2.2 _ _ hr
    exact fair_itemsF toks n f k1 x.2 (acc++[x.1]) (by have:=h1.1;omega) h1.2
  ·rename_i hlt
   exact⟨by simp,NzE.ok _ _,fun x k' e=>by cases e;omega⟩
theorem fair_items(toks:List Tok)(n:Nat)(l:List Op):itemsP toks n l≠.out∧NzE (itemsP toks n l):=by
 have:=fair_itemsF toks n (toks.length+1) 0 l [] (by omega) (by omega)
 exact⟨this.1,this.2.1⟩
def OpsB(m:Nat)(r:ItR):Prop:=∀x k,r=.ok x k→x.2.length≤m
theorem OpsB.then{α:Type}{m:Nat}{r:PR α}{f:α→Nat→ItR}(h:∀x k,OpsB m (f x k)):OpsB m (r.then f):=fun x k e=>by
 obtain⟨y,k1,_,e2⟩:=PR.then_ok e
 exact h y k1 x k e2
theorem OpsB.ok{m:Nat}{x:Itm × List Op}{k:Nat}(h:x.2.length≤m):OpsB m (.ok x k):=fun y k' e=>by cases e;exact h
theorem OpsB.err{m:Nat}(c:Int)(a:Nat):OpsB m (.err c a):=fun y k' e=>by cases e
theorem OpsB.unexp{m:Nat}(p:PE)(k:Nat):OpsB m (p.unexp k):=fun y k' e=>(PE.unexp_ok e).elim
theorem added_len(l:List Op)(o:Op):(added l o).1.length≤l.length+1:=by
 unfold added
 split
 ·simp
 ·split
  ·simp
  ·split <;> simp
theorem opsB_op(p:PE)(it:Itm)(fix:Int)(k:Nat):OpsB (p.ops.length+1) (p.opP it fix k):=by
 unfold PE.opP
 refine OpsB.then fun _ _=>OpsB.then fun _ _=>OpsB.then fun _ _=>?_
 split
 ·exact OpsB.err _ _
 ·exact OpsB.ok (added_len _ _)
theorem opsB_decl(p:PE)(it:Itm)(k:Nat):OpsB (p.ops.length+1) (p.declP it k):=by
 unfold PE.declP
 have h:p.ops.length≤p.ops.length+1:=Nat.le_succ _
 refine OpsB.then fun _ _=>?_
 split
 ·refine OpsB.then fun _ _=>?_
  split
  ·exact OpsB.then fun _ _=>OpsB.then fun _ _=>OpsB.then fun _ _=>OpsB.ok h
  ·exact OpsB.then fun _ _=>OpsB.ok h
 ·exact OpsB.then fun _ _=>OpsB.then fun _ _=>OpsB.then fun _ _=>OpsB.ok h
theorem opsB_dir(p:PE)(i:Int)(it:Itm)(k:Nat):OpsB (p.ops.length+1) (p.dirP i it k):=by
 have h:p.ops.length≤p.ops.length+1:=Nat.le_succ _
 unfold PE.dirP
 split
 ·exact OpsB.then fun _ _=>opsB_op p _ _ _
 ·exact opsB_op p _ _ _
 ·exact opsB_op p _ _ _
 ·exact OpsB.then fun _ _=>OpsB.then fun _ _=>OpsB.then fun _ _=>OpsB.then fun _ _=>OpsB.then fun _ _=>OpsB.then fun _ _=>OpsB.ok h
 ·exact OpsB.then fun _ _=>OpsB.then fun _ _=>OpsB.then fun _ _=>OpsB.then fun _ _=>OpsB.then fun _ _=>OpsB.then fun _ _=>OpsB.ok h
 ·exact OpsB.then fun _ _=>OpsB.then fun _ _=>OpsB.ok h
 ·exact OpsB.then fun _ _=>OpsB.then fun _ _=>OpsB.ok h
 ·exact OpsB.then fun _ _=>OpsB.then fun _ _=>OpsB.ok h
 ·exact OpsB.then fun _ _=>OpsB.then fun _ _=>OpsB.ok h
 ·exact OpsB.then fun _ _=>OpsB.then fun _ _=>OpsB.ok h
 ·exact OpsB.then fun _ _=>OpsB.then fun _ _=>OpsB.ok h
 ·exact OpsB.then fun _ _=>OpsB.then fun _ _=>OpsB.then fun _ _=>OpsB.then fun _ _=>OpsB.then fun _ _=>OpsB.ok h
 ·exact OpsB.then fun _ _=>OpsB.then fun _ _=>OpsB.then fun _ _=>OpsB.ok h
theorem opsB_item(p:PE)(n k:Nat):OpsB (p.ops.length+1) (p.itemP n k):=by
 have h:p.ops.length≤p.ops.length+1:=Nat.le_succ _
 unfold PE.itemP
 split
 ·exact OpsB.err _ _
 ·split
  ·split
   ·exact OpsB.err _ _
   ·exact opsB_dir p _ _ _
  ·split
   ·exact opsB_decl p _ k
   ·exact OpsB.unexp p k
theorem item_lt{p:PE}{n k k':Nat}{x:Itm × List Op}(h:p.itemP n k=.ok x k'):n≠512:=by
 intro e
 unfold PE.itemP at h
 rw[if_pos e] at h
 cases h
end Lfc
namespace Lfc
structure Rel(p q:PE)(d:Nat)(lim:Nat→Prop)(A:Nat→Nat→Prop)(E:Prop):Prop where
 ops:q.ops=p.ops
 le:p.toks.length≤q.toks.length
 down:∀k k',k≤k'→lim k'→lim k
 kind:∀k,lim k→(q.pk (k+d)).kind=(p.pk k).kind
 text:∀k,lim k→(q.pk (k+d)).text=(p.pk k).text
 pos:∀k,lim k→A (p.pk k).pos (q.pk (k+d)).pos
 all:E→∀k,lim k
 len:E→∀k,k=p.toks.length↔k+d=q.toks.length
 fin:E→A p.fin q.fin
def SimE(e d:Nat)(lim:Nat→Prop)(A:Nat→Nat→Prop)(E:Prop){α:Type}(k:Nat)(r s:PR α)(R:α→α→Prop):Prop :=
 (∀x k',r=.ok x k'→k+e≤k'∧(lim (k'-e)→∃y,s=.ok y (k'+d)∧R x y))∧(E→∀c a,r=.err c a→∃a',s=.err c a'∧A a a')
abbrev Sim(d:Nat)(lim:Nat→Prop)(A:Nat→Nat→Prop)(E:Prop){α:Type}(k:Nat)(r s:PR α)(R:α→α→Prop):Prop:=SimE 0 d lim A E k r s R
section
variable {p q:PE} {d:Nat} {lim:Nat→Prop} {A:Nat→Nat→Prop} {E:Prop}
theorem SimE.then{α β:Type}{e:Nat}(H:Rel p q d lim A E){k:Nat}{r s:PR α}{f g:α→Nat→PR β}{R:α→α→Prop}{R':β→β→Prop}(h:Sim d lim A E k r s R)
  (hf:∀x y k1,k≤k1→(lim k1→R x y)→SimE e d lim A E k1 (f x k1) (g y (k1+d)) R'):SimE e d lim A E k (r.then f) (s.then g) R':=by
 refine⟨fun z k' e=>?_,fun hE c a e=>?_⟩
 ·obtain⟨x,k1,e1,e2⟩:=PR.then_ok e
  obtain⟨h1,h2⟩:=h.1 x k1 e1
  have h1:k≤k1:=h1
  by_cases hl:lim k1
  ·obtain⟨y,e3,hR⟩:=h2 hl
   obtain⟨h3,h4⟩:=(hf x y k1 h1 (fun _=>hR)).1 z k' e2
   refine⟨by omega,fun hl'=>?_⟩
   rw[e3]
   exact h4 hl'
  ·obtain⟨h3,h4⟩:=(hf x x k1 h1 (fun hl'=>absurd hl' hl)).1 z k' e2
   exact⟨by omega,fun hl'=>absurd (H.down _ _ (by omega) hl') hl⟩
 ·cases r with
  |out=>cases e
  |err c' a' =>
   cases e
   obtain⟨b,e1,hA⟩:=h.2 hE c a rfl
   exact⟨b,by rw[e1];rfl,hA⟩
  |ok x k1 =>
   obtain⟨h1,h2⟩:=h.1 x k1 rfl
   obtain⟨y,e3,hR⟩:=h2 (H.all hE k1)
   obtain⟨b,e1,hA⟩:=(hf x y k1 h1 (fun _=>hR)).2 hE c a e
   exact⟨b,by rw[e3];exact e1,hA⟩
theorem SimE.ite{α:Type}{i:Nat}(H:Rel p q d lim A E){k:Nat}{c c':Prop}[Decidable c][Decidable c']{r1 r2 s1 s2:PR α}{R:α→α→Prop}(hc:lim k→(c↔c'))(h1:SimE i d lim A E k r1 s1 R)(h2:SimE i d lim A E k r2 s2 R):SimE i d lim A E k (if c then r1 else r2) (if c' then s1 else s2) R:=by
 by_cases hl:lim k
 ·by_cases h:c
  ·rw[if_pos h,if_pos ((hc hl).1 h)];exact h1
  ·rw[if_neg h,if_neg (fun h'=>h ((hc hl).2 h'))];exact h2
 ·refine⟨fun x k' e=>?_,fun hE=>absurd (H.all hE k) hl⟩
  have:k+i≤k':=by
   split at e
   ·exact(h1.1 x k' e).1
   ·exact(h2.1 x k' e).1
  exact⟨this,fun hl'=>absurd (H.down _ _ (by omega) hl') hl⟩
theorem SimE.mono{α:Type}{e:Nat}{k:Nat}{r s:PR α}{R R':α→α→Prop}(h:SimE e d lim A E k r s R)(hR:∀x y,R x y→R' x y):SimE e d lim A E k r s R' :=
 ⟨fun x k' e=>⟨(h.1 x k' e).1,fun hl=>let ⟨y,e1,h1⟩:=(h.1 x k' e).2 hl;⟨y,e1,hR x y h1⟩⟩,h.2⟩
theorem Sim.ok{α:Type}{k k1 k2:Nat}{x y:α}{R:α→α→Prop}(hk:k≤k1)(e:k2=k1+d)(h:lim k1→R x y):Sim d lim A E k (.ok x k1) (.ok y k2) R:=by
 subst e
 exact⟨fun z k' e=>by cases e;exact⟨hk,fun hl=>⟨y,rfl,h hl⟩⟩,fun _ c a e=>by cases e⟩
theorem SimE.err{α:Type}{i:Nat}{k a a':Nat}{c:Int}{R:α→α→Prop}(h:E→A a a'):SimE i d lim A E k (.err c a) (.err c a') R:=by
 refine⟨fun z k' e=>(nomatch e),fun hE c a e=>?_⟩
 cases e
 exact⟨a',rfl,h hE⟩
theorem SimE.out{α:Type}{e:Nat}{k:Nat}{s:PR α}{R:α→α→Prop}:SimE e d lim A E k .out s R:=⟨fun z k' e=>(nomatch e),fun hE c a e=>(nomatch e)⟩
theorem SimE.unexp{α:Type}{i:Nat}(H:Rel p q d lim A E){k k2:Nat}(e:k2=k+d){R:α→α→Prop}:SimE i d lim A E k (p.unexp k:PR α) (q.unexp k2) R:=by
 subst e
 refine⟨fun x k' e=>(PE.unexp_ok e).elim,fun hE c a e=>?_⟩
 unfold PE.unexp at e ⊢
 by_cases h:k=p.toks.length
 ·rw[if_pos h] at e
  rw[if_pos ((H.len hE k).1 h)]
  cases e
  exact⟨_,rfl,H.fin hE⟩
 ·rw[if_neg h] at e
  rw[if_neg (fun h'=>h ((H.len hE k).2 h'))]
  cases e
  exact⟨_,rfl,H.pos k (H.all hE k)⟩
theorem SimE.later{α:Type}{e:Nat}{k k1:Nat}{r s:PR α}{R:α→α→Prop}(h:SimE e d lim A E k1 r s R)(hk:k≤k1):SimE e d lim A E k r s R:=⟨fun x k' e=>⟨by have:=(h.1 x k' e).1;omega,(h.1 x k' e).2⟩,h.2⟩
theorem SimE.map{α β:Type}{e:Nat}{k:Nat}{r s:PR α}{F G:α→β}{R:α→α→Prop}{R':β→β→Prop}(h:SimE e d lim A E k r s R)(hR:∀x y k1,k+e≤k1→lim (k1-e)→R x y→R' (F x) (G y)):SimE e d lim A E k (r.then fun x k1=>.ok (F x) k1) (s.then fun x k1=>.ok (G x) k1) R':=by
 refine⟨fun z k' e=>?_,fun hE c a e=>?_⟩
 ·obtain⟨x,k1,e1,e2⟩:=PR.then_ok e
  cases e2
  obtain⟨h1,h2⟩:=h.1 x k' e1
  refine⟨h1,fun hl=>?_⟩
  obtain⟨y,e3,hxy⟩:=h2 hl
  exact⟨G y,by rw[e3];rfl,hR x y k' h1 hl hxy⟩
 ·cases r with
  |out=>cases e
  |err c' a' =>
   cases e
   obtain⟨b,e1,hA⟩:=h.2 hE c a rfl
   exact⟨b,by rw[e1];rfl,hA⟩
  |ok x k1=>cases e
theorem Rel.is(H:Rel p q d lim A E){k:Nat}(hl:lim k)(kd:Int)(s:List UInt8):q.is (k+d) kd s=p.is k kd s:=by unfold PE.is;rw[H.kind k hl,H.text k hl]
theorem Rel.nm(H:Rel p q d lim A E){k:Nat}(hl:lim k):q.isNm (k+d)=p.isNm k:=by unfold PE.isNm;rw[H.kind k hl,H.text k hl]
theorem sim_punct(H:Rel p q d lim A E)(k:Nat)(s:List UInt8):Sim d lim A E k (p.punct k s) (q.punct (k+d) s) Eq:=by
 unfold PE.punct
 exact SimE.ite H (fun hl=>by rw[H.is hl]) (Sim.ok (Nat.le_succ k) (by omega) fun _=>rfl) (SimE.unexp H rfl)
theorem sim_dotF(H:Rel p q d lim A E){β:Type}(k:Nat)(s:List UInt8){F G:Nat→PR β}{R:β→β→Prop}(h1:∀x k',F (k+1)=.ok x k'→k'=k+1∧(lim k→∃y,G (k+1+d)=.ok y (k+1+d)∧R x y))(h2:E→∀c a,F (k+1)=.err c a→∃a',G (k+1+d)=.err c a'∧A a a') :
  SimE 1 d lim A E k ((p.punct k s).then fun _ k1=>F k1) ((q.punct (k+d) s).then fun _ k1=>G k1) R:=by
 unfold PE.punct
 cases hp:p.is k 2 s
 ·have hu:(p.unexp k:PR Unit).then (fun _ k1=>F k1)=p.unexp k:=by
   unfold PE.unexp
   split <;> rfl
  have hv:(q.unexp (k+d):PR Unit).then (fun _ k1=>G k1)=q.unexp (k+d):=by
   unfold PE.unexp
   split <;> rfl
  rw[if_neg (by decide),hu]
  refine⟨fun x k' e=>(PE.unexp_ok e).elim,fun hE=>?_⟩
  rw[H.is (H.all hE k),hp,if_neg (by decide),hv]
  exact(SimE.unexp (i:=1) (R:=R) H rfl).2 hE
 ·rw[if_pos rfl,show k+d+1=k+1+d by omega]
  refine⟨fun x k' e=>?_,fun hE c a e=>?_⟩
  ·obtain⟨rfl,h⟩:=h1 x k' e
   refine⟨Nat.le_refl _,fun hl=>?_⟩
   have hl:lim k:=hl
   rw[H.is hl,hp,if_pos rfl]
   exact h hl
  ·rw[H.is (H.all hE k),hp,if_pos rfl]
   exact h2 hE c a e
theorem sim_dot(H:Rel p q d lim A E){β:Type}(k:Nat)(s:List UInt8){x y:β}{R:β→β→Prop}(h:lim k→R x y):SimE 1 d lim A E k ((p.punct k s).then fun _ k1=>.ok x k1) ((q.punct (k+d) s).then fun _ k1=>.ok y k1) R :=
 sim_dotF H k s (fun z k' e=>by cases e;exact⟨rfl,fun hl=>⟨y,rfl,h hl⟩⟩) (fun _ c a e=>by cases e)
theorem sim_name(H:Rel p q d lim A E)(k:Nat):Sim d lim A E k (p.name k) (q.name (k+d)) Eq:=by
 unfold PE.name
 refine SimE.ite H (fun hl=>by rw[H.nm hl]) (Sim.ok (Nat.le_succ k) (by omega) fun hl=>?_) (SimE.unexp H rfl)
 rw[H.text k (H.down _ _ (Nat.le_succ k) hl)]
theorem sim_number(H:Rel p q d lim A E)(k:Nat)(a b:Int):Sim d lim A E k (p.number k a b) (q.number (k+d) a b) Eq:=by
 unfold PE.number
 refine SimE.ite H (fun hl=>by rw[H.text k hl,H.kind k hl]) (SimE.unexp H rfl) (Sim.ok (Nat.le_succ k) (by omega) fun hl=>?_)
 rw[H.text k (H.down _ _ (Nat.le_succ k) hl)]
theorem sim_word(H:Rel p q d lim A E)(k:Nat)(ws:List (List UInt8)):Sim d lim A E k (p.word k ws) (q.word (k+d) ws) Eq:=by
 unfold PE.word
 refine SimE.ite H (fun hl=>by rw[H.text k hl,H.kind k hl]) (SimE.unexp H rfl) (Sim.ok (Nat.le_succ k) (by omega) fun hl=>?_)
 rw[H.text k (H.down _ _ (Nat.le_succ k) hl)]
def OpdsL(s t:List Opd):Prop:=s.map Opd.strip=t.map Opd.strip
def OptL(s t:Option Opd):Prop:=s.map Opd.strip=t.map Opd.strip
def RawL(s t:Raw):Prop:=s.strip=t.strip
def OpdL(s t:Opd):Prop:=s.strip=t.strip
def RawsL(s t:List Raw):Prop:=s.map Raw.strip=t.map Raw.strip
theorem OpdsL.len{s t:List Opd}(h:OpdsL s t):s.length=t.length:=by have:=congrArg List.length h;simpa using this
theorem OpdsL.snoc{s t:List Opd}{x y:Opd}(h:OpdsL s t)(h':OpdL x y):OpdsL (s++[x]) (t++[y]):=by unfold OpdsL at h ⊢;rw[List.map_append,List.map_append,h,List.map_cons,List.map_cons,h']
def GSim(d:Nat)(lim:Nat→Prop)(A:Nat→Nat→Prop)(E:Prop)(g g':Nat→PR (Option Opd)):Prop:=∀k,Sim d lim A E k (g k) (g' (k+d)) OptL
theorem sim_opdsG(H:Rel p q d lim A E){g g':Nat→PR (Option Opd)}(hg:GSim d lim A E g g')(hb:∀k k',g k=.ok none k'→k'=k):∀(m m' k:Nat)(a a':List Opd),m≤m'→(lim k→OpdsL a a')→Sim d lim A E k (opdsG g m k a) (opdsG g' m' (k+d) a') OpdsL
 |0,_,_,_,_,_,_=>SimE.out
 |m+1,0,_,_,_,h,_=>absurd h (by omega)
 | m + 1, m' + 1, k, a, a', hm, ha => by
  have h1:=hg k
  rw[opdsG,opdsG]
  cases hr:g k with
  |out=>exact SimE.out
  |err c b =>
   refine⟨fun x k' e=>(nomatch e),fun hE c1 b1 e=>?_⟩
   cases e
   obtain⟨b',e1,hA⟩:=h1.2 hE c b hr
   rw[e1]
   exact⟨b',rfl,hA⟩
  | ok o k1 =>
   obtain⟨hk,h2⟩:=h1.1 o k1 hr
   cases o with
   |none =>
    obtain rfl:=hb _ _ hr
    refine⟨fun x k' e=>?_,fun hE c1 b1 e=>(nomatch e)⟩
    cases e
    refine⟨Nat.le_refl _,fun hl=>?_⟩
    obtain⟨y,e1,hy⟩:=h2 hl
    cases y with
    |none=>rw[e1];exact⟨a',rfl,ha hl⟩
    |some y=>exact absurd hy (by simp[OptL])
   | some x =>
    by_cases hl:lim k1
    ·obtain⟨y,e1,hy⟩:=h2 hl
     cases y with
     |none=>exact absurd hy (by simp[OptL])
     |some y =>
      have hxy:OpdL x y:=by simpa[OptL,OpdL] using hy
      rw[e1]
      have h3:=sim_opdsG H hg hb m m' k1 (a++[x]) (a'++[y]) (by omega) (fun _=>(ha (H.down _ _ hk hl)).snoc hxy)
      exact⟨fun z k' e=>⟨Nat.le_trans hk (h3.1 z k' e).1,(h3.1 z k' e).2⟩,h3.2⟩
    ·have h3:=sim_opdsG H hg hb m m' k1 (a++[x]) (a++[x]) (by omega) (fun h=>absurd h hl)
     refine⟨fun z k' e=>⟨Nat.le_trans hk (h3.1 z k' e).1,fun hl'=>absurd (H.down _ _ (h3.1 z k' e).1 hl') hl⟩,fun hE=>absurd (H.all hE k1) hl⟩
theorem sim_exprG(H:Rel p q d lim A E){g g':Nat→PR (Option Opd)}(hg:GSim d lim A E g g')(hb:∀k k',g k=.ok none k'→k'=k)(k:Nat):Sim d lim A E k (p.exprG g k) (q.exprG g' (k+d)) RawL:=by
 unfold PE.exprG
 refine SimE.then H (sim_opdsG H hg hb _ _ k [] [] (by have:=H.le;omega) (fun _=>rfl)) fun s t k1 hk1 hst=>?_
 refine SimE.ite H (fun hl=>by rw[(hst hl).len]) (SimE.unexp H rfl) ?_
 rw[H.ops]
 refine SimE.ite H (fun hl=>by rw[(resolved_like p.ops (hst hl)).2]) ?_ (Sim.ok (Nat.le_refl _) rfl fun hl=>(resolved_like p.ops (hst hl)).1)
 by_cases hE:E
 ·rw[(resolved_like p.ops (hst (H.all hE k1))).2]
  exact SimE.err fun hE=>H.pos k (H.all hE k)
 ·exact⟨fun x k' e=>(nomatch e),fun h=>absurd h hE⟩
theorem sim_bindN(H:Rel p q d lim A E)(k:Nat):Sim d lim A E k (p.bindN k) (q.bindN (k+d)) Eq:=by
 unfold PE.bindN
 exact SimE.ite H (fun hl=>by rw[H.is hl]) (Sim.ok (Nat.le_succ k) (by omega) fun _=>rfl) (sim_name H k)
theorem sim_parG(H:Rel p q d lim A E){g g':Nat→PR (Option Opd)}(hg:GSim d lim A E g g')(hb:∀k k',g k=.ok none k'→k'=k)(k:Nat):Sim d lim A E (k+1) (p.parG g k) (q.parG g' (k+d)) OpdL:=by
 unfold PE.parG
 rw[show k+d+1=k+1+d by omega]
 refine SimE.then H (sim_exprG H hg hb (k+1)) fun t u k1 _ htu=>?_
 refine SimE.then H (R:=RawL) (SimE.ite H (fun hl=>by rw[H.is hl]) ?_ (Sim.ok (Nat.le_refl _) rfl htu)) fun t1 u1 k2 _ h1=>SimE.then H (sim_punct H k2 _) fun _ _ k3 h23 _=>Sim.ok (Nat.le_refl _) rfl fun hl=>?_
 ·rw[show k1+d+1=k1+1+d by omega]
  have:=SimE.then H (R':=RawL) (f:=fun u k''=>.ok (.node 9 [] (p.pk k).pos [t,u]) k'') (g:=fun v k''=>.ok (.node 9 [] (q.pk (k+d)).pos [u,v]) k'') (sim_exprG H hg hb (k1+1)) fun t2 u2 k2 h2 htu2=>Sim.ok (Nat.le_refl _) rfl fun hl=>by
   have a:=htu (H.down k1 k2 (by omega) hl)
   have b:=htu2 hl
   unfold RawL at a b ⊢
   simp[strip_node,a,b]
  exact SimE.later this (Nat.le_succ _)
 ·have a:=h1 (H.down k2 k3 h23 hl)
  unfold RawL at a
  simp[OpdL,Opd.strip,a]
theorem RawsL.snoc{s t:List Raw}{x y:Raw}(h:RawsL s t)(h':RawL x y):RawsL (s++[x]) (t++[y]):=by unfold RawsL at h ⊢;rw[List.map_append,List.map_append,h,List.map_cons,List.map_cons,h']
theorem sim_bindG(H:Rel p q d lim A E){g g':Nat→PR (Option Opd)}(hg:GSim d lim A E g g')(hb:∀k k',g k=.ok none k'→k'=k)(kd:Int)(en:List UInt8)(k:Nat):Sim d lim A E (k+1) (p.bindG g kd en k) (q.bindG g' kd en (k+d)) OpdL:=by
 unfold PE.bindG
 rw[show k+d+1=k+1+d by omega]
 refine SimE.then H (sim_bindN H (k+1)) fun n n' k1 _ hn=>?_
 refine SimE.then H (R:=RawsL) (SimE.ite H (fun hl=>by rw[H.is hl]) ?_ (Sim.ok (Nat.le_refl _) rfl fun _=>rfl)) fun l l' k2 h12 h1=>SimE.then H (sim_punct H k2 _) fun _ _ k3 h23 _=>SimE.then H (sim_exprG H hg hb k3) fun u u' k4 h34 hu=>Sim.ok (Nat.le_refl _) rfl fun hl=>?_
 ·rw[show k1+d+1=k1+1+d by omega]
  have:=SimE.then H (R':=RawsL) (f:=fun u k''=>.ok [u] k'') (g:=fun v k''=>.ok [v] k'') (sim_exprG H hg hb (k1+1)) fun t2 u2 k2 h2 htu2=>Sim.ok (Nat.le_refl _) rfl fun hl=>by
   have b:=htu2 hl
   unfold RawL at b
   simp[RawsL,b]
  exact SimE.later this (Nat.le_succ _)
 ·have a:=(h1 (H.down k2 k4 (by omega) hl)).snoc (hu hl)
  have b:=hn (H.down k1 k4 (by omega) hl)
  unfold RawsL at a
  simp only[OpdL,Opd.strip,strip_node,a,b]
theorem sim_opt{k:Nat}(H:Rel p q d lim A E){r s:PR Opd}(h:Sim d lim A E k r s OpdL):Sim d lim A E k r.opt s.opt OptL:=SimE.then H h fun x y k1 _ hxy=>Sim.ok (Nat.le_refl _) rfl fun hl=>by
 have:=hxy hl
 unfold OpdL at this
 simp[OptL,this]
theorem sim_leaf(H:Rel p q d lim A E)(k:Nat)(kd:Int){n n':List UInt8}(hn:lim k→n=n'):Sim d lim A E k (p.leaf k kd n) (q.leaf (k+d) kd n') OptL:=by
 unfold PE.leaf
 refine Sim.ok (Nat.le_succ k) (by omega) fun hl=>?_
 simp[OptL,Opd.strip,strip_node,hn (H.down _ _ (Nat.le_succ k) hl)]
theorem sim_opdG(H:Rel p q d lim A E){g g':Nat→PR (Option Opd)}(hg:GSim d lim A E g g')(hb:∀k k',g k=.ok none k'→k'=k)(k:Nat):Sim d lim A E k (p.opdG g k) (q.opdG g' (k+d)) OptL:=by
 unfold PE.opdG
 have T:=H.text k
 have K:=H.kind k
 have N:Sim d lim A E k (PR.ok (none:Option Opd) k) (.ok none (k+d)) OptL:=Sim.ok (Nat.le_refl _) rfl fun _=>rfl
 refine SimE.ite H (fun hl=>by rw[K hl]) ?_ ?_
 ·refine SimE.ite H (fun hl=>by rw[T hl]) (sim_leaf H k 1 fun hl=>(T hl).symm) ?_
  exact SimE.ite H (fun hl=>by rw[T hl]) (sim_leaf H k 2 fun hl=>by rw[T hl]) N
 refine SimE.ite H (fun hl=>by rw[K hl]) N ?_
 refine SimE.ite H (fun hl=>by rw[T hl]) (sim_leaf H k 3 fun _=>rfl) ?_
 refine SimE.ite H (fun hl=>by rw[T hl]) (sim_leaf H k 4 fun _=>rfl) ?_
 refine SimE.ite H (fun hl=>by rw[T hl]) (sim_leaf H k 1 fun hl=>(T hl).symm) ?_
 refine SimE.ite H (fun hl=>by rw[T hl]) (sim_opt H ((sim_parG H hg hb k).later (Nat.le_succ k))) ?_
 refine SimE.ite H (fun hl=>by rw[T hl]) (sim_opt H ((sim_bindG H hg hb 7 _ k).later (Nat.le_succ k))) ?_
 exact SimE.ite H (fun hl=>by rw[T hl]) (sim_opt H ((sim_bindG H hg hb 8 _ k).later (Nat.le_succ k))) N
theorem sim_opdF(H:Rel p q d lim A E):∀(f f':Nat),f≤f'→GSim d lim A E (p.opdF f) (q.opdF f')
 |0,_,_=>fun k=>SimE.out
 |f+1,0,h=>absurd h (by omega)
 |f+1,f'+1,h=>fun k=>sim_opdG H (sim_opdF H f f' (by omega)) (opdF_b p f).2 k
theorem sim_expr(H:Rel p q d lim A E)(k:Nat):Sim d lim A E k (p.expr k) (q.expr (k+d)) RawL:=sim_exprG H (sim_opdF H _ _ (by have:=H.le;omega)) (opdF_b p _).2 k
def bndS(b:Bnd):Bnd:=(b.1,b.2.strip)
def BndsL(s t:List Bnd):Prop:=s.map bndS=t.map bndS
def Itm.strip(x:Itm):Itm:={ x with pos:=0,type:=x.type.map Raw.strip,value:=x.value.map Raw.strip,som:=x.som.map bndS,params:=x.params.map bndS }
def ItL(x y:Itm × List Op):Prop:=x.1.strip=y.1.strip∧x.2=y.2
theorem BndsL.snoc{s t:List Bnd}{n n':List UInt8}{x y:Raw}(h:BndsL s t)(hn:n=n')(h':RawL x y):BndsL (s++[(n,x)]) (t++[(n',y)]):=by
 unfold BndsL at h ⊢
 unfold RawL at h'
 subst hn
 simp[h,bndS,h']
theorem sim_bindersF(H:Rel p q d lim A E):∀(f f' k:Nat)(a a':List Bnd),f≤f'→(lim k→BndsL a a')→Sim d lim A E k (bindersF p f k a) (bindersF q f' (k+d) a') BndsL
 |0,_,_,_,_,_,_=>SimE.out
 |f+1,0,_,_,_,h,_=>absurd h (by omega)
 |f+1,f'+1,k,a,a',hf,ha=>by
  rw[bindersF,bindersF]
  refine SimE.then H (sim_punct H k _) fun _ _ k1 h1 _=>SimE.then H (sim_name H k1) fun n n' k2 h2 hn=>SimE.then H (sim_punct H k2 _) fun _ _ k3 h3 _=>SimE.then H (sim_expr H k3) fun t t' k4 h4 ht=>SimE.then H (sim_punct H k4 _) fun _ _ k5 h5 _=>?_
  have hs:lim k5→BndsL (a++[(n,t)]) (a'++[(n',t')]):=fun hl=>(ha (H.down _ _ (by omega) hl)).snoc (hn (H.down _ _ (by omega) hl)) (ht (H.down _ _ h5 hl))
  exact SimE.ite H (fun hl=>by rw[H.is hl]) (sim_bindersF H f f' k5 _ _ (by omega) hs) (Sim.ok (Nat.le_refl _) rfl hs)
theorem sim_binders(H:Rel p q d lim A E)(k:Nat):Sim d lim A E k (p.binders k) (q.binders (k+d)) BndsL:=sim_bindersF H _ _ k [] [] (by have:=H.le;omega) fun _=>rfl
theorem sim_barsF(H:Rel p q d lim A E):∀(f f' k:Nat)(a a':List (List UInt8)),f≤f'→(lim k→a=a')→Sim d lim A E k (barsF p f k a) (barsF q f' (k+d) a') Eq
 |0,_,_,_,_,_,_=>SimE.out
 |f+1,0,_,_,_,h,_=>absurd h (by omega)
 |f+1,f'+1,k,a,a',hf,ha=>by
  rw[barsF,barsF,show k+d+1=k+1+d by omega]
  refine SimE.ite H (fun hl=>by rw[H.is hl]) ?_ (Sim.ok (Nat.le_refl _) rfl ha)
  exact(SimE.then H (sim_name H (k+1)) fun n n' k2 h2 hn=>sim_barsF H f f' k2 _ _ (by omega) fun hl=>by rw[ha (H.down _ _ (by omega) hl),hn hl]).later (Nat.le_succ k)
theorem sim_namesF(H:Rel p q d lim A E):∀(f f' k:Nat)(a a':List (List UInt8)),f≤f'→(lim k→a=a')→Sim d lim A E k (namesF p f k a) (namesF q f' (k+d) a') Eq
 |0,_,_,_,_,_,_=>SimE.out
 |f+1,0,_,_,_,h,_=>absurd h (by omega)
 |f+1,f'+1,k,a,a',hf,ha=>by
  rw[namesF,namesF]
  refine SimE.ite H (fun hl=>by rw[H.nm hl]) ?_ (Sim.ok (Nat.le_refl _) rfl ha)
  exact SimE.then H (sim_name H k) fun n n' k2 h2 hn=>sim_namesF H f f' k2 _ _ (by omega) fun hl=>by rw[ha (H.down _ _ h2 hl),hn hl]
theorem sim_signsF(H:Rel p q d lim A E):∀(f f' k:Nat)(a a':List Int),f≤f'→(lim k→a=a')→SimE 1 d lim A E k (signsF p f k a) (signsF q f' (k+d) a') Eq
 |0,_,_,_,_,_,_=>SimE.out
 |f+1,0,_,_,_,h,_=>absurd h (by omega)
 | f + 1, f' + 1, k, a, a', hf, ha => by
  rw[signsF,signsF]
  refine SimE.ite H (fun hl=>by rw[H.is hl]) ?_ ?_
  ·rw[show k+d+1=k+1+d by omega]
   exact⟨fun x k' e=>by cases e;exact⟨Nat.le_refl _,fun hl=>⟨a',rfl,ha hl⟩⟩,fun _ c b e=>by cases e⟩
  ·exact SimE.then H (sim_word H k _) fun n n' k2 h2 hn=>sim_signsF H f f' k2 _ _ (by omega) fun hl=>by rw[ha (H.down _ _ h2 hl),hn hl]
theorem sim_partsF(H:Rel p q d lim A E){g g':Nat→PR Ord}(hg:∀k,Sim d lim A E k (g k) (g' (k+d)) Eq)(en:List UInt8):∀(f f' k:Nat)(a a':List Ord),f≤f'→(lim k→a=a')→Sim d lim A E k (partsF p g en f k a) (partsF q g' en f' (k+d) a') Eq
 |0,_,_,_,_,_,_=>SimE.out
 |f+1,0,_,_,_,h,_=>absurd h (by omega)
 |f+1,f'+1,k,a,a',hf,ha=>by
  rw[partsF,partsF]
  refine SimE.ite H (fun hl=>by rw[H.is hl,ha hl]) (Sim.ok (Nat.le_refl _) rfl ha) ?_
  exact SimE.then H (hg k) fun n n' k2 h2 hn=>sim_partsF H hg en f f' k2 _ _ (by omega) fun hl=>by rw[ha (H.down _ _ h2 hl),hn hl]
theorem sim_orderF(H:Rel p q d lim A E):∀(f o k:Nat),Sim d lim A E k (p.orderF f o k) (q.orderF f o (k+d)) Eq
 |0,_,_=>SimE.out
 | f + 1, o, k => by
  rw[PE.orderF,PE.orderF]
  have br:∀(kd:Int)(en:List UInt8),Sim d lim A E k (if o+1=128 then .err 2 (p.pk k).pos else(partsF p (p.orderF f (o+1)) en (p.toks.length+1) (k+1) []).then fun l k1=>.ok (Ord.node kd 0 l) (k1+1)) (if o+1=128 then .err 2 (q.pk (k+d)).pos else(partsF q (q.orderF f (o+1)) en (q.toks.length+1) (k+d+1) []).then fun l k1=>.ok (Ord.node kd 0 l) (k1+1)) Eq:=fun kd en=>by
   refine SimE.ite H (fun _=>Iff.rfl) (SimE.err fun hE=>H.pos k (H.all hE k)) ?_
   rw[show k+d+1=k+1+d by omega]
   refine SimE.later (SimE.then H (sim_partsF H (sim_orderF H f (o+1)) en _ _ (k+1) [] [] (by have:=H.le;omega) fun _=>rfl) fun l l' k1 h1 hl=>?_) (Nat.le_succ k)
   exact Sim.ok (k:=k1) (k1:=k1+1) (Nat.le_succ _) (by omega) fun h=>by rw[hl (H.down _ _ (Nat.le_succ _) h)]
  refine SimE.ite H (fun hl=>by rw[H.is hl]) (br 3 _) (SimE.ite H (fun hl=>by rw[H.is hl]) (br 2 _) ?_)
  exact SimE.then H (sim_number H k 1 64) fun n n' k1 h1 hn=>Sim.ok (Nat.le_refl _) rfl fun hl=>by rw[hn hl]
theorem sim_order(H:Rel p q d lim A E)(k:Nat):Sim d lim A E k (p.order k) (q.order (k+d)) Eq:=sim_orderF H 128 0 k
theorem sim_ordersF(H:Rel p q d lim A E):∀(f f' k:Nat)(a a':List (List UInt8 × Ord)),f≤f'→(lim k→a=a')→Sim d lim A E k (ordersF p f k a) (ordersF q f' (k+d) a') Eq
 |0,_,_,_,_,_,_=>SimE.out
 |f+1,0,_,_,_,h,_=>absurd h (by omega)
 |f+1,f'+1,k,a,a',hf,ha=>by
  rw[ordersF,ordersF]
  refine SimE.ite H (fun hl=>by rw[H.nm hl,ha hl]) ?_ (Sim.ok (Nat.le_refl _) rfl ha)
  exact SimE.then H (sim_name H k) fun n n' k1 h1 hn=>SimE.then H (sim_order H k1) fun o o' k2 h2 ho=>sim_ordersF H f f' k2 _ _ (by omega) fun hl=>by rw[ha (H.down _ _ (by omega) hl),hn (H.down _ _ h2 hl),ho hl]
end
end Lfc
namespace Lfc
section
variable {p q:PE} {d:Nat} {lim:Nat→Prop} {A:Nat→Nat→Prop} {E:Prop}
theorem sim_decl(H:Rel p q d lim A E)(a b k:Nat):SimE 1 d lim A E k (p.declP (Itm.new a) k) (q.declP (Itm.new b) (k+d)) ItL:=by
 unfold PE.declP
 refine SimE.then H (sim_name H k) fun n n' k1 h1 hn=>SimE.ite H (fun hl=>by rw[H.is hl]) ?_ ?_
 ·rw[show k1+d+1=k1+1+d by omega]
  refine(SimE.then H (sim_expr H (k1+1)) fun t t' k2 h2 ht=>SimE.ite H (fun hl=>by rw[H.is hl]) ?_ ?_).later (Nat.le_succ k1)
  ·refine SimE.then H (sim_punct H k2 _) fun _ _ k3 h3 _=>SimE.then H (sim_expr H k3) fun v v' k4 h4 hv=>sim_dot H k4 _ fun hl=>?_
   have e1:=hn (H.down k1 k4 (by omega) hl)
   have e2:=ht (H.down k2 k4 (by omega) hl)
   have e3:=hv (H.down k4 k4 (by omega) hl)
   unfold RawL at e2 e3
   simp[ItL,Itm.strip,Itm.new,e1,e2,e3,H.ops]
  ·refine sim_dot H k2 _ fun hl=>?_
   have e1:=hn (H.down k1 k2 (by omega) hl)
   have e2:=ht (H.down k2 k2 (by omega) hl)
   unfold RawL at e2
   simp[ItL,Itm.strip,Itm.new,e1,e2,H.ops]
 ·refine SimE.then H (sim_punct H k1 _) fun _ _ k3 h3 _=>SimE.then H (sim_expr H k3) fun v v' k4 h4 hv=>sim_dot H k4 _ fun hl=>?_
  have e1:=hn (H.down k1 k4 (by omega) hl)
  have e3:=hv (H.down k4 k4 (by omega) hl)
  unfold RawL at e3
  simp[ItL,Itm.strip,Itm.new,e1,e3,H.ops]
theorem sim_op(H:Rel p q d lim A E)(a b:Nat)(fix fix':Int)(k:Nat)(hx:lim k→fix=fix'):SimE 1 d lim A E k (p.opP (Itm.new a) fix k) (q.opP (Itm.new b) fix' (k+d)) ItL:=by
 unfold PE.opP
 refine SimE.then H (sim_number H k 0 99) fun c c' k1 h1 hc=>SimE.then H (sim_name H k1) fun n n' k2 h2 hn=>?_
 refine sim_dotF H k2 _ (F:=fun k3=>if (added p.ops ⟨n,fix,c⟩).2≠0 then .err (added p.ops ⟨n,fix,c⟩).2 (p.pk k1).pos else .ok ({ Itm.new a with kind:=3,op:=⟨n,fix,c⟩ },(added p.ops ⟨n,fix,c⟩).1) k3) (G:=fun k3=>if (added q.ops ⟨n',fix',c'⟩).2≠0 then .err (added q.ops ⟨n',fix',c'⟩).2 (q.pk (k1+d)).pos else .ok ({ Itm.new b with kind:=3,op:=⟨n',fix',c'⟩ },(added q.ops ⟨n',fix',c'⟩).1) k3) (fun x k' e=>?_) (fun hE c1 a1 e=>?_)
 ·refine⟨by split at e <;> cases e;rfl,fun hl=>?_⟩
  obtain rfl:=hx (H.down k k2 (by omega) hl)
  obtain rfl:=hc (H.down k1 k2 (by omega) hl)
  obtain rfl:=hn hl
  rw[H.ops]
  split at e
  ·cases e
  ·rename_i h0
   cases e
   simp only
   rw[if_neg h0]
   exact⟨_,rfl,by simp[ItL,Itm.strip,Itm.new]⟩
 ·have hl:=H.all hE
  obtain rfl:=hx (hl k)
  obtain rfl:=hc (hl k1)
  obtain rfl:=hn (hl k2)
  rw[H.ops]
  simp only at e ⊢
  split at e
  ·rename_i h0
   cases e
   rw[if_pos h0]
   exact⟨_,rfl,H.pos k1 (hl k1)⟩
  ·cases e
theorem sim_infix(H:Rel p q d lim A E)(a b k:Nat):SimE 1 d lim A E k (p.infixP (Itm.new a) k) (q.infixP (Itm.new b) (k+d)) ItL:=by
 unfold PE.infixP
 exact SimE.then H (sim_word H k _) fun i i' k1 h1 hi=>sim_op H a b _ _ k1 fun hl=>by rw[hi hl]
theorem sim_named(H:Rel p q d lim A E)(kd:Int)(a b k:Nat):SimE 1 d lim A E k (p.namedP kd (Itm.new a) k) (q.namedP kd (Itm.new b) (k+d)) ItL:=by
 unfold PE.namedP
 refine SimE.then H (sim_name H k) fun n n' k1 h1 hn=>sim_dot H k1 _ fun hl=>?_
 simp[ItL,Itm.strip,Itm.new,hn hl,H.ops]
theorem sim_query(H:Rel p q d lim A E)(a b k:Nat):SimE 1 d lim A E k (p.queryP (Itm.new a) k) (q.queryP (Itm.new b) (k+d)) ItL:=by
 unfold PE.queryP
 refine SimE.then H (sim_number H k _ _) fun c c' k1 h1 hc=>SimE.then H (sim_expr H k1) fun t t' k2 h2 ht=>sim_dot H k2 _ fun hl=>?_
 have e1:=hc (H.down k1 k2 (by omega) hl)
 have e2:=ht (H.down k2 k2 (by omega) hl)
 unfold RawL at e2
 simp[ItL,Itm.strip,Itm.new,e1,e2,H.ops]
theorem sim_block(H:Rel p q d lim A E)(a b k:Nat):SimE 1 d lim A E k (p.blockP (Itm.new a) k) (q.blockP (Itm.new b) (k+d)) ItL:=by
 unfold PE.blockP
 refine SimE.then H (sim_name H k) fun n n' k1 h1 hn=>SimE.then H (sim_punct H k1 _) fun _ _ k2 h2 _=>SimE.then H (R:=BndsL) (SimE.ite H (fun hl=>by rw[H.is hl]) ?_ (Sim.ok (Nat.le_refl _) rfl fun _=>rfl)) fun s s' k3 h3 hs=>SimE.then H (sim_word H k3 _) fun _ _ k4 h4 _=>SimE.then H (sim_binders H k4) fun x x' k5 h5 hx=>sim_dot H k5 _ fun hl=>?_
 ·rw[show k2+d+1=k2+1+d by omega]
  exact(sim_binders H (k2+1)).later (Nat.le_succ k2)
 ·have e1:=hn (H.down k1 k5 (by omega) hl)
  have e2:=hs (H.down k3 k5 (by omega) hl)
  have e3:=hx (H.down k5 k5 (by omega) hl)
  unfold BndsL at e2 e3
  simp[ItL,Itm.strip,Itm.new,e1,e2,e3,H.ops]
theorem sim_worlds(H:Rel p q d lim A E)(a b k:Nat):SimE 1 d lim A E k (p.worldsP (Itm.new a) k) (q.worldsP (Itm.new b) (k+d)) ItL:=by
 unfold PE.worldsP
 refine SimE.then H (sim_punct H k _) fun _ _ k1 h1 _=>SimE.then H (R:=Eq) (SimE.ite H (fun hl=>by rw[H.nm hl]) ?_ (Sim.ok (Nat.le_refl _) rfl fun _=>rfl)) fun s s' k2 h2 hs=>SimE.then H (sim_punct H k2 _) fun _ _ k3 h3 _=>SimE.then H (sim_name H k3) fun n n' k4 h4 hn=>SimE.then H (sim_namesF H _ _ k4 _ _ (by have:=H.le;omega) fun hl=>by rw[hn hl]) fun x x' k5 h5 hx=>sim_dot H k5 _ fun hl=>?_
 ·exact SimE.then H (sim_name H k1) fun n n' k2 h2 hn=>sim_barsF H _ _ k2 _ _ (by have:=H.le;omega) fun hl=>by rw[hn hl]
 ·have e2:=hs (H.down k2 k5 (by omega) hl)
  have e3:=hx (H.down k5 k5 (by omega) hl)
  simp[ItL,Itm.strip,Itm.new,e2,e3,H.ops]
theorem sim_mode(H:Rel p q d lim A E)(a b k:Nat):SimE 1 d lim A E k (p.modeP (Itm.new a) k) (q.modeP (Itm.new b) (k+d)) ItL:=by
 unfold PE.modeP
 refine SimE.then H (sim_name H k) fun n n' k1 h1 hn=>SimE.map (sim_signsF H _ _ k1 [] [] (by have:=H.le;omega) fun _=>rfl) fun s s' k2 h2 hl hs=>?_
 simp[ItL,Itm.strip,Itm.new,hn (H.down k1 _ (by omega) hl),hs,H.ops]
theorem sim_orders(H:Rel p q d lim A E)(kd:Int)(a b k:Nat):SimE 1 d lim A E k (p.ordersP kd (Itm.new a) k) (q.ordersP kd (Itm.new b) (k+d)) ItL:=by
 unfold PE.ordersP
 refine SimE.then H (sim_ordersF H _ _ k [] [] (by have:=H.le;omega) fun _=>rfl) fun l l' k1 h1 hn=>sim_dot H k1 _ fun hl=>?_
 simp[ItL,Itm.strip,Itm.new,hn hl,H.ops]
theorem sim_reduces(H:Rel p q d lim A E)(a b k:Nat):SimE 1 d lim A E k (p.reducesP (Itm.new a) k) (q.reducesP (Itm.new b) (k+d)) ItL:=by
 unfold PE.reducesP
 refine SimE.then H (sim_name H k) fun n n' k1 h1 hn=>SimE.then H (sim_order H k1) fun o o' k2 h2 ho=>SimE.then H (R:=Eq) (SimE.ite H (fun hl=>by rw[H.is hl]) (Sim.ok (Nat.le_succ _) (by omega) fun _=>rfl) ?_) fun r r' k3 h3 hr=>SimE.then H (sim_order H k3) fun u u' k4 h4 hu=>sim_dot H k4 _ fun hl=>?_
 ·exact SimE.then H (sim_word H k2 _) fun i i' k3 h3 hi=>Sim.ok (Nat.le_refl _) rfl fun hl=>by rw[hi hl]
 ·have e1:=hn (H.down k1 k4 (by omega) hl)
  have e2:=ho (H.down k2 k4 (by omega) hl)
  have e3:=hr (H.down k3 k4 (by omega) hl)
  have e4:=hu (H.down k4 k4 (by omega) hl)
  simp[ItL,Itm.strip,Itm.new,e1,e2,e3,e4,H.ops]
theorem sim_dir(H:Rel p q d lim A E)(i:Int)(a b k:Nat):SimE 1 d lim A E k (p.dirP i (Itm.new a) k) (q.dirP i (Itm.new b) (k+d)) ItL:=by
 unfold PE.dirP
 split
 ·exact sim_infix H a b k
 ·exact sim_op H a b 1 1 k fun _=>rfl
 ·exact sim_op H a b 2 2 k fun _=>rfl
 ·exact sim_block H a b k
 ·exact sim_worlds H a b k
 ·exact sim_mode H a b k
 ·exact sim_named H 7 a b k
 ·exact sim_named H 8 a b k
 ·exact sim_named H 9 a b k
 ·exact sim_orders H 10 a b k
 ·exact sim_orders H 11 a b k
 ·exact sim_reduces H a b k
 ·exact sim_query H a b k
theorem sim_item(H:Rel p q d lim A E)(n m k:Nat)(hn:n≠512)(hm:m≠512):SimE 1 d lim A E k (p.itemP n k) (q.itemP m (k+d)) ItL:=by
 unfold PE.itemP
 rw[if_neg hn,if_neg hm]
 refine SimE.ite H (fun hl=>by rw[H.kind k hl]) ?_ (SimE.ite H (fun hl=>by rw[H.nm hl]) (sim_decl H _ _ k) (SimE.unexp H rfl))
 by_cases hl:lim k
 ·rw[H.text k hl]
  refine SimE.ite H (fun _=>Iff.rfl) (SimE.err fun hE=>H.pos k hl) ?_
  rw[show k+d+1=k+1+d by omega]
  exact(sim_dir H _ _ _ (k+1)).later (Nat.le_succ k)
 ·refine⟨fun x k' e=>?_,fun hE=>absurd (H.all hE k) hl⟩
  have:k+1≤k':=by
   split at e
   ·cases e
   ·have:=((sim_dir H _ (p.pk k).pos 0 (k+1)).1 x k' e).1
    omega
  exact⟨this,fun hl'=>absurd (H.down _ _ (by omega) hl') hl⟩
end
end Lfc
