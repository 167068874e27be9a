/- Parts of the proof that no input makes the law false: PaFit,PaSam3,PaFmd,PaFn. -/
import Derived.Laws.EntriesVeiled
import Derived.Laws.StructEq
import Derived.Deep.MidRow
import Derived.Test.YthajalgkjonaaaaGreatDoorQxAE
import Derived.Test.YthajalgkjonaaaaGreatDoorQxAR
set_option linter.unusedVariables false
set_option linter.unusedSimpArgs false
namespace Lfc
structure Itm.fit(m:Nat)(x:Itm):Prop where
 ty:x.type.length≤m∧∀t∈x.type,t.size≤3*m
 va:x.value.length≤m∧∀t∈x.value,t.size≤3*m
 so:x.som.length≤m∧∀t∈x.som,t.2.size≤3*m
 pa:x.params.length≤m∧∀t∈x.params,t.2.size≤3*m
 bl:x.blocks.length≤m
 fa:x.fams.length≤m
 si:x.signs.length≤m
 od:x.orders.length≤m∧∀t∈x.orders,t.2.size≤m
 le:x.left.size≤m
 ri:x.right.size≤m
theorem fit_new(a m:Nat)(hm:1≤m):(Itm.new a).fit m:=by
 have h:Ord.nil.size≤m:=by simp[Ord.nil,Ord.size,Ord.sizes];omega
 constructor <;> simp[Itm.new,h]
def FitR(p:PE)(r:ItR):Prop:=∀x k,r=.ok x k→x.1.fit (p.toks.length+1)
theorem FitR.dot{p:PE}{k:Nat}{s:List UInt8}{x:Itm × List Op}(h:x.1.fit (p.toks.length+1)):FitR p ((p.punct k s).then fun _ k1=>.ok x k1):=fun y k' e=>by
 obtain⟨_,k1,_,e2⟩:=PR.then_ok e
 cases e2
 exact h
theorem expr_fit{p:PE}{k k':Nat}{t:Raw}(h:p.expr k=.ok t k'):t.size≤3*(p.toks.length+1):=by
 have:=exprG_b (opdF_b p _) h
 rcases Nat.lt_or_ge p.toks.length k with hk | hk <;> omega
theorem fit_decl(p:PE)(a k:Nat):FitR p (p.declP (Itm.new a) k):=by
 have hn:=fit_new a (p.toks.length+1) (by omega)
 unfold PE.declP
 intro x k' e
 obtain⟨n,k1,_,e⟩:=PR.then_ok e
 split at e
 ·obtain⟨t,k2,ht,e⟩:=PR.then_ok e
  have h1:=expr_fit ht
  split at e
  ·obtain⟨_,k3,_,e⟩:=PR.then_ok e
   obtain⟨v,k4,hv,e⟩:=PR.then_ok e
   have h2:=expr_fit hv
   exact FitR.dot (x:=({ Itm.new a with kind:=2,name:=n,type:=[t],value:=[v] },p.ops)) { hn with ty:=by simp;omega,va:=by simp;omega } _ _ e
  ·exact FitR.dot (x:=({ Itm.new a with kind:=1,name:=n,type:=[t] },p.ops)) { hn with ty:=by simp;omega } _ _ e
 ·obtain⟨_,k3,_,e⟩:=PR.then_ok e
  obtain⟨v,k4,hv,e⟩:=PR.then_ok e
  have h2:=expr_fit hv
  exact FitR.dot (x:=({ Itm.new a with kind:=2,name:=n,value:=[v] },p.ops)) { hn with va:=by simp;omega } _ _ e
theorem fit_op(p:PE)(a k:Nat)(fix:Int):FitR p (p.opP (Itm.new a) fix k):=by
 have hn:=fit_new a (p.toks.length+1) (by omega)
 unfold PE.opP
 intro x k' e
 obtain⟨c,k1,_,e⟩:=PR.then_ok e
 obtain⟨n,k2,_,e⟩:=PR.then_ok e
 obtain⟨_,k3,_,e⟩:=PR.then_ok e
 split at e
 ·cases e
 ·cases e
  exact { hn with }
theorem bindersF_fit(p:PE)(M:Nat)(hM:p.toks.length≤M):∀(f k:Nat)(acc x:List Bnd)(k':Nat),bindersF p f k acc=.ok x k'→(∀b∈acc,b.2.size≤3*M)→k+x.length≤acc.length+k'∧k≤k'∧k'≤p.toks.length∧∀b∈x,b.2.size≤3*M
 |0,_,_,_,_,h,_=>nomatch h
 | f + 1, k, acc, x, k', h, ha => by
  rw[bindersF] at h
  obtain⟨_,k1,e1,h⟩:=PR.then_ok h
  obtain⟨n,k2,e2,h⟩:=PR.then_ok h
  obtain⟨_,k3,e3,h⟩:=PR.then_ok h
  obtain⟨t,k4,e4,h⟩:=PR.then_ok h
  obtain⟨_,k5,e5,h⟩:=PR.then_ok h
  have a1:=PE.punct_ok e1
  have a2:=PE.name_ok e2
  have a3:=PE.punct_ok e3
  have a4:=exprG_b (opdF_b p _) e4
  have a5:=PE.punct_ok e5
  have hb:∀b∈acc++[(n,t)],b.2.size≤3*M:=fun b hb=>by
   rcases List.mem_append.1 hb with hb | hb
   ·exact ha b hb
   ·simp at hb
    subst hb
    show t.size≤_
    omega
  split at h
  ·have:=bindersF_fit p M hM f k5 _ x k' h hb
   simp at this
   refine⟨by omega,by omega,this.2.2.1,?_⟩
   intro b hb
   exact this.2.2.2 b.1 b.2 hb
  ·cases h
   refine⟨by simp;omega,by omega,by omega,hb⟩
theorem fit_block(p:PE)(a k:Nat):FitR p (p.blockP (Itm.new a) k):=by
 have hn:=fit_new a (p.toks.length+1) (by omega)
 unfold PE.blockP
 intro x k' e
 obtain⟨n,k1,_,e⟩:=PR.then_ok e
 obtain⟨_,k2,_,e⟩:=PR.then_ok e
 obtain⟨s,k3,hs,e⟩:=PR.then_ok e
 obtain⟨_,k4,_,e⟩:=PR.then_ok e
 obtain⟨q,k5,hq,e⟩:=PR.then_ok e
 have h2:=bindersF_fit p (p.toks.length+1) (by omega) _ _ _ _ _ hq (by simp)
 have h1:s.length≤p.toks.length+1∧∀b∈s,b.2.size≤3*(p.toks.length+1):=by
  split at hs
  ·have h1:=bindersF_fit p (p.toks.length+1) (by omega) _ _ _ _ _ hs (by simp)
   exact⟨by have:=h1.1;have:=h1.2.2.1;simp at *;omega,h1.2.2.2⟩
  ·cases hs
   simp
 exact FitR.dot (x:=({ Itm.new a with kind:=4,name:=n,som:=s,params:=q },p.ops)) { hn with so:=h1,pa:=⟨by have:=h2.1;have:=h2.2.2.1;simp at *;omega,h2.2.2.2⟩ } _ _ e
theorem barsF_fit(p:PE):∀(f k:Nat)(acc x:List (List UInt8))(k':Nat),barsF p f k acc=.ok x k'→k≤p.toks.length→k+x.length≤acc.length+k'∧k'≤p.toks.length
 |0,_,_,_,_,h,_=>nomatch h
 | f + 1, k, acc, x, k', h, hk => by
  rw[barsF] at h
  split at h
  ·obtain⟨n,k1,e1,h⟩:=PR.then_ok h
   have a1:=PE.name_ok e1
   have:=barsF_fit p f k1 _ x k' h (by omega)
   simp at this
   omega
  ·cases h
   omega
theorem namesF_fit(p:PE):∀(f k:Nat)(acc x:List (List UInt8))(k':Nat),namesF p f k acc=.ok x k'→k≤p.toks.length→k+x.length≤acc.length+k'∧k'≤p.toks.length
 |0,_,_,_,_,h,_=>nomatch h
 | f + 1, k, acc, x, k', h, hk => by
  rw[namesF] at h
  split at h
  ·obtain⟨n,k1,e1,h⟩:=PR.then_ok h
   have a1:=PE.name_ok e1
   have:=namesF_fit p f k1 _ x k' h (by omega)
   simp at this
   omega
  ·cases h
   omega
theorem signsF_fit(p:PE):∀(f k:Nat)(acc x:List Int)(k':Nat),signsF p f k acc=.ok x k'→k+x.length≤acc.length+k'∧k'≤p.toks.length
 |0,_,_,_,_,h=>nomatch h
 | f + 1, k, acc, x, k', h => by
  rw[signsF] at h
  split at h
  ·rename_i hi
   have:=is_ltk (by decide) hi
   cases h
   omega
  ·obtain⟨n,k1,e1,h⟩:=PR.then_ok h
   have a1:k1=k+1:=by
    unfold PE.word at e1
    split at e1
    ·exact(PE.unexp_ok e1).elim
    ·cases e1;rfl
   have:=signsF_fit p f k1 _ x k' h
   simp at this
   omega
theorem fit_worlds(p:PE)(a k:Nat):FitR p (p.worldsP (Itm.new a) k):=by
 have hn:=fit_new a (p.toks.length+1) (by omega)
 unfold PE.worldsP
 intro x k' e
 obtain⟨_,k1,e1,e⟩:=PR.then_ok e
 obtain⟨s,k2,hs,e⟩:=PR.then_ok e
 obtain⟨_,k3,e3,e⟩:=PR.then_ok e
 obtain⟨n,k4,e4,e⟩:=PR.then_ok e
 obtain⟨q,k5,hq,e⟩:=PR.then_ok e
 have a1:=PE.punct_ok e1
 have a4:=PE.name_ok e4
 have h2:=namesF_fit p _ _ _ _ _ hq (by omega)
 have h1:s.length≤p.toks.length+1:=by
  split at hs
  ·obtain⟨m,k6,e6,hs⟩:=PR.then_ok hs
   have a6:=PE.name_ok e6
   have h1:=barsF_fit p _ _ _ _ _ hs (by omega)
   simp at h1
   omega
  ·cases hs
   simp
 exact FitR.dot (x:=({ Itm.new a with kind:=5,blocks:=s,fams:=q },p.ops)) { hn with bl:=h1,fa:=by simp at h2 ⊢;omega } _ _ e
theorem fit_mode(p:PE)(a k:Nat):FitR p (p.modeP (Itm.new a) k):=by
 have hn:=fit_new a (p.toks.length+1) (by omega)
 unfold PE.modeP
 intro x k' e
 obtain⟨n,k1,e1,e⟩:=PR.then_ok e
 obtain⟨l,k2,hl,e⟩:=PR.then_ok e
 have h1:=signsF_fit p _ _ _ _ _ hl
 cases e
 exact { hn with si:=by simp at h1 ⊢;omega }
theorem sizes_snoc(n:Ord):∀acc:List Ord,Ord.sizes (acc++[n])=Ord.sizes acc+n.size
 |[]=>by simp[Ord.sizes]
 |y :: r=>by simp only[List.cons_append,Ord.sizes,sizes_snoc n r];omega
theorem partsF_fit(p:PE)(g:Nat→PR Ord)(hg:∀k x k',g k=.ok x k'→k≤p.toks.length→k+x.size≤k'∧k'≤p.toks.length)(en:List UInt8):∀(f k:Nat)(acc x:List Ord)(k':Nat),partsF p g en f k acc=.ok x k'→k≤p.toks.length→k+Ord.sizes x≤Ord.sizes acc+k'∧k'<p.toks.length
 |0,_,_,_,_,h,_=>nomatch h
 | f + 1, k, acc, x, k', h, hk => by
  rw[partsF] at h
  split at h
  ·rename_i hi
   have:=is_ltk (by decide) hi.2
   cases h
   exact⟨by omega,this⟩
  ·obtain⟨n,k1,e1,h⟩:=PR.then_ok h
   have a1:=hg k n k1 e1 hk
   have:=partsF_fit p g hg en f k1 _ x k' h a1.2
   have e:=sizes_snoc n acc
   omega
theorem orderF_fit(p:PE):∀(f o k:Nat)(x:Ord)(k':Nat),p.orderF f o k=.ok x k'→k≤p.toks.length→k+x.size≤k'∧k'≤p.toks.length
 |0,_,_,_,_,h,_=>nomatch h
 | f + 1, o, k, x, k', h, hk => by
  rw[PE.orderF] at h
  have br:∀(kd:Int)(en:List UInt8),k<p.toks.length→((partsF p (p.orderF f (o+1)) en (p.toks.length+1) (k+1) []).then fun l k1=>.ok (Ord.node kd 0 l) (k1+1))=PR.ok x k'→k+x.size≤k'∧k'≤p.toks.length:=fun kd en hlt h=>by
   obtain⟨l,k1,e1,h⟩:=PR.then_ok h
   have:=partsF_fit p _ (orderF_fit p f (o+1)) en _ _ _ _ _ e1 (by omega)
   cases h
   simp only[Ord.size,Ord.sizes] at this ⊢
   omega
  split at h
  ·rename_i hi
   split at h
   ·cases h
   ·exact br 3 _ (is_ltk (by decide) hi) h
  ·split at h
   ·rename_i hi
    split at h
    ·cases h
    ·exact br 2 _ (is_ltk (by decide) hi) h
   ·obtain⟨n,k1,e1,h⟩:=PR.then_ok h
    have:=(fair_number p k 1 64).2.2 n k1 e1
    cases h
    simp only[Ord.size,Ord.sizes]
    omega
theorem ordersF_fit(p:PE):∀(f k:Nat)(acc x:List (List UInt8 × Ord))(k':Nat),ordersF p f k acc=.ok x k'→k≤p.toks.length→(∀t∈acc,t.2.size≤p.toks.length+1)→k+x.length≤acc.length+k'∧k'≤p.toks.length∧∀t∈x,t.2.size≤p.toks.length+1
 |0,_,_,_,_,h,_,_=>nomatch h
 | f + 1, k, acc, x, k', h, hk, ha => by
  rw[ordersF] at h
  split at h
  ·obtain⟨n,k1,e1,h⟩:=PR.then_ok h
   obtain⟨o,k2,e2,h⟩:=PR.then_ok h
   have a1:=PE.name_ok e1
   have a2:=orderF_fit p 128 0 k1 o k2 e2 (by omega)
   have a3:=o.size_pos
   have:=ordersF_fit p f k2 _ x k' h a2.2 (fun b hb=>by
    rcases List.mem_append.1 hb with hb | hb
    ·exact ha b hb
    ·simp at hb
     subst hb
     show o.size≤_
     omega)
   simp only[List.length_append,List.length_cons,List.length_nil] at this
   exact⟨by omega,this.2.1,this.2.2⟩
  ·cases h
   exact⟨by omega,hk,ha⟩
theorem fit_orders(p:PE)(kd:Int)(a k:Nat)(hk:k≤p.toks.length):FitR p (p.ordersP kd (Itm.new a) k):=by
 have hn:=fit_new a (p.toks.length+1) (by omega)
 unfold PE.ordersP
 intro x k' e
 obtain⟨l,k1,hl,e⟩:=PR.then_ok e
 have h1:=ordersF_fit p _ _ _ _ _ hl hk (by simp)
 exact FitR.dot (x:=({ Itm.new a with kind:=kd,orders:=l },p.ops)) { hn with od:=⟨by have:=h1.1;have:=h1.2.1;simp at *;omega,h1.2.2⟩ } _ _ e
theorem fit_reduces(p:PE)(a k:Nat):FitR p (p.reducesP (Itm.new a) k):=by
 have hn:=fit_new a (p.toks.length+1) (by omega)
 unfold PE.reducesP
 intro x k' e
 obtain⟨n,k1,e1,e⟩:=PR.then_ok e
 obtain⟨o,k2,e2,e⟩:=PR.then_ok e
 obtain⟨r,k3,e3,e⟩:=PR.then_ok e
 obtain⟨u,k4,e4,e⟩:=PR.then_ok e
 have a1:=PE.name_ok e1
 have a2:=orderF_fit p 128 0 k1 o k2 e2 (by omega)
 have a3:k3≤p.toks.length:=by
  split at e3
  ·rename_i hi
   have:=is_ltk (by decide) hi
   cases e3
   omega
  ·obtain⟨i,k5,e5,e3⟩:=PR.then_ok e3
   have:=(fair_word p k2 rels).2.2 i k5 e5
   cases e3
   omega
 have a4:=orderF_fit p 128 0 k3 u k4 e4 a3
 exact FitR.dot (x:=({ Itm.new a with kind:=12,name:=n,left:=o,rel:=r,right:=u },p.ops)) { hn with le:=by show o.size≤_;omega,ri:=by show u.size≤_;omega } _ _ e
theorem fit_named(p:PE)(kd:Int)(a k:Nat):FitR p (p.namedP kd (Itm.new a) k):=by
 have hn:=fit_new a (p.toks.length+1) (by omega)
 unfold PE.namedP
 intro x k' e
 obtain⟨n,k1,e1,e⟩:=PR.then_ok e
 exact FitR.dot (x:=({ Itm.new a with kind:=kd,name:=n },p.ops)) { hn with } _ _ e
theorem fit_query(p:PE)(a k:Nat):FitR p (p.queryP (Itm.new a) k):=by
 have hn:=fit_new a (p.toks.length+1) (by omega)
 unfold PE.queryP
 intro x k' e
 obtain⟨n,k1,e1,e⟩:=PR.then_ok e
 obtain⟨t,k2,ht,e⟩:=PR.then_ok e
 have h1:=expr_fit ht
 exact FitR.dot (x:=({ Itm.new a with kind:=13,count:=n,type:=[t] },p.ops)) { hn with ty:=by simp;omega } _ _ e
theorem fit_dir(p:PE)(i:Int)(a k:Nat)(hk:k<p.toks.length):FitR p (p.dirP i (Itm.new a) (k+1)):=by
 unfold PE.dirP
 split
 ·intro x k' e
  obtain⟨i,k1,_,e⟩:=PR.then_ok e
  exact fit_op p _ _ _ _ _ e
 ·exact fit_op p _ _ _
 ·exact fit_op p _ _ _
 ·exact fit_block p _ _
 ·exact fit_worlds p _ _
 ·exact fit_mode p _ _
 ·exact fit_named p _ _ _
 ·exact fit_named p _ _ _
 ·exact fit_named p _ _ _
 ·exact fit_orders p _ _ _ hk
 ·exact fit_orders p _ _ _ hk
 ·exact fit_reduces p _ _
 ·exact fit_query p _ _
theorem fit_item(p:PE)(n k:Nat):FitR p (p.itemP n k):=by
 unfold PE.itemP
 intro x k' e
 split at e
 ·cases e
 split at e
 ·rename_i hk
  have hlt:=p.pk_lt (k:=k) (by omega)
  split at e
  ·cases e
  ·exact fit_dir p _ _ _ hlt _ _ e
 split at e
 ·exact fit_decl p _ _ _ _ e
 ·exact(PE.unexp_ok e).elim
theorem fit_items(T:List Tok)(n:Nat):∀(f k:Nat)(l:List Op)(acc:List Itm)(x:List Itm × List Op)(k':Nat),itemsF T n f k l acc=.ok x k'→(∀y∈acc,y.fit (T.length+1))→∀y∈x.1,y.fit (T.length+1)
 |0,_,_,_,_,_,h,_=>nomatch h
 | f + 1, k, l, acc, x, k', h, ha => by
  rw[itemsF] at h
  split at h
  ·obtain⟨y,k1,e1,e2⟩:=PR.then_ok h
   refine fit_items T n f k1 _ _ x k' e2 fun z hz=>?_
   rcases List.mem_append.1 hz with hz | hz
   ·exact ha z hz
   ·simp at hz
    subst hz
    exact fit_item ⟨T,n,l⟩ _ _ y k1 e1
  ·cases h
   exact ha
end Lfc
namespace Go.Proofs.YthajalgkjonaaaaGreatDoor
open Go.RowKit
set_option maxRecDepth 100000 in
set_option maxHeartbeats 8000000 in
theorem sItem_any(x y:Lfc.Itm)(s s':IS)(w:World)(hS:x.strip=y.strip)(hf:x.fit 100000)(hv:ItV w x s)(hv':ItV w y s') :
  Calls Tryz.prog 31 #[.agg (itCells x s),.agg (itCells y s'),.bool false] w fun e w'=>e=.returned (.bool true)∧Below w.heap.size w w':=by
 obtain⟨kind,pos,name,type,value,⟨on,of,op⟩,som,params,blocks,fams,signs,orders,⟨lk,la,lp⟩,⟨rk,ra,rp⟩,rel,count⟩:=x
 obtain⟨kind',pos',name',type',value',op',som',params',blocks',fams',signs',orders',left',right',rel',count'⟩:=y
 simp only[Lfc.Itm.strip,Lfc.Itm.mk.injEq,true_and] at hS
 obtain⟨rfl,rfl,hty,hva,rfl,hso,hpa,rfl,rfl,rfl,rfl,rfl,rfl,rfl,rfl⟩:=hS
 obtain⟨f1,f2,f3,f4,f5,f6,f7,f8,f9,f10⟩:=hf
 simp only at f1 f2 f3 f4 f5 f6 f7 f8 f9 f10
 have l1:type'.length=type.length:=by have:=congrArg List.length hty;simpa using this.symm
 have l2:value'.length=value.length:=by have:=congrArg List.length hva;simpa using this.symm
 have l3:som'.length=som.length:=by have:=congrArg List.length hso;simpa using this.symm
 have l4:params'.length=params.length:=by have:=congrArg List.length hpa;simpa using this.symm
 have CTY:=Lib.hid (fun W (hb:Below w.heap.size w W)=>sRaws_any type type' type.length rfl l1 hty s.ty.1 s'.ty.1 s.ty.2 s'.ty.2 W (by omega) (fun t ht=>by have:=f1.2 t ht;omega) (hv.ty.1.below hb) (hv'.ty.1.below hb))
 have CVA:=Lib.hid (fun W (hb:Below w.heap.size w W)=>sRaws_any value value' value.length rfl l2 hva s.va.1 s'.va.1 s.va.2 s'.va.2 W (by omega) (fun t ht=>by have:=f2.2 t ht;omega) (hv.va.1.below hb) (hv'.va.1.below hb))
 have CSO:=Lib.hid (fun W (hb:Below w.heap.size w W)=>sBinders_any som som' som.length rfl l3 hso s.so.1 s'.so.1 s.so.2 s'.so.2 W (by omega) (fun t ht=>by have:=f3.2 t ht;omega) (hv.so.1.below hb) (hv'.so.1.below hb))
 have CPA:=Lib.hid (fun W (hb:Below w.heap.size w W)=>sBinders_any params params' params.length rfl l4 hpa s.pa.1 s'.pa.1 s.pa.2 s'.pa.2 W (by omega) (fun t ht=>by have:=f4.2 t ht;omega) (hv.pa.1.below hb) (hv'.pa.1.below hb))
 have CBL:=Lib.hid (fun W (hb:Below w.heap.size w W)=>sNames_any blocks s.bl.1 s'.bl.1 s.bl.2 s'.bl.2 W (by omega) (hv.bl.1.below hb) (hv'.bl.1.below hb))
 have CFA:=Lib.hid (fun W (hb:Below w.heap.size w W)=>sNames_any fams s.fa.1 s'.fa.1 s.fa.2 s'.fa.2 W (by omega) (hv.fa.1.below hb) (hv'.fa.1.below hb))
 have CLE:=Lib.hid (fun W (hb:Below w.heap.size w W)=>sOrder_upto 100000 (by omega) (.node lk la lp) _ _ W f9 (OrdV.mk hv.le.2 (hv.le.1.below hb)) (OrdV.mk hv'.le.2 (hv'.le.1.below hb)))
 have CRI:=Lib.hid (fun W (hb:Below w.heap.size w W)=>sOrder_upto 100000 (by omega) (.node rk ra rp) _ _ W f10 (OrdV.mk hv.ri.2 (hv.ri.1.below hb)) (OrdV.mk hv'.ri.2 (hv'.ri.1.below hb)))
 have HSI:=Lib.hid hv.si.1
 have HSI':=Lib.hid hv'.si.1
 have HOD:=Lib.hid hv.od.1
 have HOD':=Lib.hid hv'.od.1
 have HF8:=Lib.hid f8.2
 have hl7:signs.length≤100000:=f7
 have hl8:orders.length≤100000:=f8.1
 simp only[itCells,Lfc.Ord.k,Lfc.Ord.a,Lfc.Ord.ps,l1,l2,l3,l4] at CLE CRI ⊢
 generalize type.length=n1 at *
 generalize value.length=n2 at *
 generalize som.length=n3 at *
 generalize params.length=n4 at *
 clear hv hv' hty hva hso hpa f1 f2 f3 f4 f5 f6 f7 f8 f9 f10 l1 l2 l3 l4
 obtain⟨wa,hwa⟩:∃wa,w.alloc (.cells #[.int .i64 kind,.int .i64 (pos:Int),S name,.slice s.ty.1 n1 s.ty.2,.slice s.va.1 n2 s.va.2,S on,.int .i64 of,.int .i64 op,.slice s.so.1 n3 s.so.2,.slice s.pa.1 n4 s.pa.2,.slice s.bl.1 blocks.length s.bl.2,.slice s.fa.1 fams.length s.fa.2,.slice s.si.1 signs.length s.si.2,.slice s.od.1 orders.length s.od.2,.int .i64 lk,.int .i64 la,.slice s.le.1 lp.length s.le.2,.int .i64 rk,.int .i64 ra,.slice s.ri.1 rp.length s.ri.2,.int .i64 rel,.int .i64 count] 42)=wa:=⟨_,rfl⟩
 obtain⟨wb,hwb⟩:∃wb,wa.alloc (.cells #[.int .i64 kind,.int .i64 (pos':Int),S name,.slice s'.ty.1 n1 s'.ty.2,.slice s'.va.1 n2 s'.va.2,S on,.int .i64 of,.int .i64 op,.slice s'.so.1 n3 s'.so.2,.slice s'.pa.1 n4 s'.pa.2,.slice s'.bl.1 blocks.length s'.bl.2,.slice s'.fa.1 fams.length s'.fa.2,.slice s'.si.1 signs.length s'.si.2,.slice s'.od.1 orders.length s'.od.2,.int .i64 lk,.int .i64 la,.slice s'.le.1 lp.length s'.le.2,.int .i64 rk,.int .i64 ra,.slice s'.ri.1 rp.length s'.ri.2,.int .i64 rel,.int .i64 count] 42)=wb:=⟨_,rfl⟩
 have ba:Below w.heap.size w wa:=by rw[←hwa];exact(Below.refl _ _).alloc (Nat.le_refl _) _
 have bab:Below wa.heap.size wa wb:=by rw[←hwb];exact(Below.refl _ _).alloc (Nat.le_refl _) _
 have qa:wa.heap[w.heap.size]?=some (.cells #[.int .i64 kind,.int .i64 (pos:Int),S name,.slice s.ty.1 n1 s.ty.2,.slice s.va.1 n2 s.va.2,S on,.int .i64 of,.int .i64 op,.slice s.so.1 n3 s.so.2,.slice s.pa.1 n4 s.pa.2,.slice s.bl.1 blocks.length s.bl.2,.slice s.fa.1 fams.length s.fa.2,.slice s.si.1 signs.length s.si.2,.slice s.od.1 orders.length s.od.2,.int .i64 lk,.int .i64 la,.slice s.le.1 lp.length s.le.2,.int .i64 rk,.int .i64 ra,.slice s.ri.1 rp.length s.ri.2,.int .i64 rel,.int .i64 count] 42 (0,0)):=by rw[←hwa];exact heap_alloc_new _ _
 have qb:wb.heap[wa.heap.size]?=some (.cells #[.int .i64 kind,.int .i64 (pos':Int),S name,.slice s'.ty.1 n1 s'.ty.2,.slice s'.va.1 n2 s'.va.2,S on,.int .i64 of,.int .i64 op,.slice s'.so.1 n3 s'.so.2,.slice s'.pa.1 n4 s'.pa.2,.slice s'.bl.1 blocks.length s'.bl.2,.slice s'.fa.1 fams.length s'.fa.2,.slice s'.si.1 signs.length s'.si.2,.slice s'.od.1 orders.length s'.od.2,.int .i64 lk,.int .i64 la,.slice s'.le.1 lp.length s'.le.2,.int .i64 rk,.int .i64 ra,.slice s'.ri.1 rp.length s'.ri.2,.int .i64 rel,.int .i64 count] 42 (0,0)):=by rw[←hwb];exact heap_alloc_new _ _
 have sa:=lt_of_block qa
 have sb:=lt_of_block qb
 have qab:=(bab.block _ sa).trans qa
 have bb:Below w.heap.size w wb:=ba.trans (bab.mono (by omega))
 have BB:=Lib.hid bb
 have B0:Hid (Below wb.heap.size wb wb):=Lib.hid (Below.refl _ _)
 have HX:Hid (∀W,Below wb.heap.size wb W→W.heap[w.heap.size]?=some (.cells #[.int .i64 kind,.int .i64 (pos:Int),S name,.slice s.ty.1 n1 s.ty.2,.slice s.va.1 n2 s.va.2,S on,.int .i64 of,.int .i64 op,.slice s.so.1 n3 s.so.2,.slice s.pa.1 n4 s.pa.2,.slice s.bl.1 blocks.length s.bl.2,.slice s.fa.1 fams.length s.fa.2,.slice s.si.1 signs.length s.si.2,.slice s.od.1 orders.length s.od.2,.int .i64 lk,.int .i64 la,.slice s.le.1 lp.length s.le.2,.int .i64 rk,.int .i64 ra,.slice s.ri.1 rp.length s.ri.2,.int .i64 rel,.int .i64 count] 42 (0,0))):=Lib.hid fun W hb=>(hb.block _ (by omega)).trans qab
 have HY:Hid (∀W,Below wb.heap.size wb W→W.heap[wa.heap.size]?=some (.cells #[.int .i64 kind,.int .i64 (pos':Int),S name,.slice s'.ty.1 n1 s'.ty.2,.slice s'.va.1 n2 s'.va.2,S on,.int .i64 of,.int .i64 op,.slice s'.so.1 n3 s'.so.2,.slice s'.pa.1 n4 s'.pa.2,.slice s'.bl.1 blocks.length s'.bl.2,.slice s'.fa.1 fams.length s'.fa.2,.slice s'.si.1 signs.length s'.si.2,.slice s'.od.1 orders.length s'.od.2,.int .i64 lk,.int .i64 la,.slice s'.le.1 lp.length s'.le.2,.int .i64 rk,.int .i64 ra,.slice s'.ri.1 rp.length s'.ri.2,.int .i64 rel,.int .i64 count] 42 (0,0))):=Lib.hid fun W hb=>(hb.block _ (by omega)).trans qb
 have HA:=Lib.hid hwa
 have HB:=Lib.hid hwb
 have toW:∀{W:World},Below wb.heap.size wb W→Below w.heap.size w W:=fun h=>BB.out.trans (h.mono BB.out.size)
 replace CTY:=Lib.hid (fun W (hb:Below wb.heap.size wb W)=>CTY.out W (toW hb))
 replace CVA:=Lib.hid (fun W (hb:Below wb.heap.size wb W)=>CVA.out W (toW hb))
 replace CSO:=Lib.hid (fun W (hb:Below wb.heap.size wb W)=>CSO.out W (toW hb))
 replace CPA:=Lib.hid (fun W (hb:Below wb.heap.size wb W)=>CPA.out W (toW hb))
 replace CBL:=Lib.hid (fun W (hb:Below wb.heap.size wb W)=>CBL.out W (toW hb))
 replace CFA:=Lib.hid (fun W (hb:Below wb.heap.size wb W)=>CFA.out W (toW hb))
 replace CLE:=Lib.hid (fun W (hb:Below wb.heap.size wb W)=>CLE.out W (toW hb))
 replace CRI:=Lib.hid (fun W (hb:Below wb.heap.size wb W)=>CRI.out W (toW hb))
 have hx0:=HX.out _ B0.out
 have hy0:=HY.out _ B0.out
 have x0:=Lib.cell_of_heap hx0 0
 have y0:=Lib.cell_of_heap hy0 0
 have x2:=Lib.cell_of_heap hx0 2
 have y2:=Lib.cell_of_heap hy0 2
 have x5:=Lib.cell_of_heap hx0 5
 have y5:=Lib.cell_of_heap hy0 5
 have x6:=Lib.cell_of_heap hx0 6
 have y6:=Lib.cell_of_heap hy0 6
 have x7:=Lib.cell_of_heap hx0 7
 have y7:=Lib.cell_of_heap hy0 7
 have x20:=Lib.cell_of_heap hx0 20
 have y20:=Lib.cell_of_heap hy0 20
 have x21:=Lib.cell_of_heap hx0 21
 have y21:=Lib.cell_of_heap hy0 21
 have x12:=Lib.cell_of_heap hx0 12
 have y12:=Lib.cell_of_heap hy0 12
 have x13:=Lib.cell_of_heap hx0 13
 have y13:=Lib.cell_of_heap hy0 13
 have x3:=Lib.cell_of_heap hx0 3
 have y3:=Lib.cell_of_heap hy0 3
 simp only[List.getElem?_toArray,List.getElem?_cons_zero,List.getElem?_cons_succ] at x0 y0 x2 y2 x5 y5 x6 y6 x7 y7 x20 y20 x21 y21 x12 y12 x13 y13 x3 y3
 clear toW ba bab qa qb qab bb sa sb hx0 hy0 HA HB
 go_enter Tryz.func31,Tryz.ntmps31
 go_upto_region 5 with(first | (go_at_call 57;with_reducible refine(CTY.out _ B0.out).mono ?_;rintro e wc1⟨rfl,b1⟩;have B1:=Lib.hid (B0.out.trans (b1.mono B0.out.size));have x4:=Lib.cell_of_heap (HX.out _ B1.out) 4;have y4:=Lib.cell_of_heap (HY.out _ B1.out) 4) | (go_at_call 57;with_reducible refine(CVA.out _ B1.out).mono ?_;rintro e wc2⟨rfl,b2⟩;have B2:=Lib.hid (B1.out.trans (b2.mono B1.out.size));have x8:=Lib.cell_of_heap (HX.out _ B2.out) 8;have y8:=Lib.cell_of_heap (HY.out _ B2.out) 8) | (go_at_call 58;with_reducible refine(CSO.out _ B2.out).mono ?_;rintro e wc3⟨rfl,b3⟩;have B3:=Lib.hid (B2.out.trans (b3.mono B2.out.size));have x9:=Lib.cell_of_heap (HX.out _ B3.out) 9;have y9:=Lib.cell_of_heap (HY.out _ B3.out) 9) | (go_at_call 58;with_reducible refine(CPA.out _ B3.out).mono ?_;rintro e wc4⟨rfl,b4⟩;have B4:=Lib.hid (B3.out.trans (b4.mono B3.out.size));have x10:=Lib.cell_of_heap (HX.out _ B4.out) 10;have y10:=Lib.cell_of_heap (HY.out _ B4.out) 10) | (go_at_call 59;with_reducible refine(CBL.out _ B4.out).mono ?_;rintro e wc5⟨rfl,b5⟩;have B5:=Lib.hid (B4.out.trans (b5.mono B4.out.size));have x11:=Lib.cell_of_heap (HX.out _ B5.out) 11;have y11:=Lib.cell_of_heap (HY.out _ B5.out) 11) | (go_at_call 59;with_reducible refine(CFA.out _ B5.out).mono ?_;rintro e wc6⟨rfl,b6⟩;have B6:=Lib.hid (B5.out.trans (b6.mono B5.out.size));have x14:=Lib.cell_of_heap (HX.out _ B6.out) 14;have y14:=Lib.cell_of_heap (HY.out _ B6.out) 14;have x15:=Lib.cell_of_heap (HX.out _ B6.out) 15;have y15:=Lib.cell_of_heap (HY.out _ B6.out) 15;have x16:=Lib.cell_of_heap (HX.out _ B6.out) 16;have y16:=Lib.cell_of_heap (HY.out _ B6.out) 16) | (go_at_call 60;with_reducible refine(CLE.out _ B6.out).mono ?_;rintro e wc7⟨rfl,b7⟩;have B7:=Lib.hid (B6.out.trans (b7.mono B6.out.size));have x17:=Lib.cell_of_heap (HX.out _ B7.out) 17;have y17:=Lib.cell_of_heap (HY.out _ B7.out) 17;have x18:=Lib.cell_of_heap (HX.out _ B7.out) 18;have y18:=Lib.cell_of_heap (HY.out _ B7.out) 18;have x19:=Lib.cell_of_heap (HX.out _ B7.out) 19;have y19:=Lib.cell_of_heap (HY.out _ B7.out) 19) | (go_at_call 60;with_reducible refine(CRI.out _ B7.out).mono ?_;rintro e wc8⟨rfl,b8⟩;have B8:=Lib.hid (B7.out.trans (b8.mono B7.out.size));have x12:=Lib.cell_of_heap (HX.out _ B8.out) 12;have y12:=Lib.cell_of_heap (HY.out _ B8.out) 12))
 have HB8:=Lib.hid B8.out
 clear x12 y12 x0 y0 x2 y2 x5 y5 x6 y6 x7 y7 x20 y20 x21 y21 x13 y13 x3 y3 x4 y4 x8 y8 x9 y9 x10 y10 x11 y11 x14 y14 x15 y15 x16 y16 x17 y17 x18 y18 x19 y19 b1 b2 b3 b4 b5 b6 b7 b8 B1 B2 B3 B4 B5 B6 B7 CTY CVA CSO CPA CBL CFA CLE CRI hwa hwb
 go_wp2_with fail
 go_loopw [7,8] (fun okv i wr=>∃k:Nat,k≤signs.length∧okv=.bool true∧i=.int .i64 k∧Below wb.heap.size wb wr) (fun _ i _=>signs.length-(intOf i).toNat)
 case atStart=>exact⟨0,by omega,rfl,rfl,HB8.out⟩
 case round =>
  obtain⟨k,hk,rfl,rfl,hbw⟩:=hrel
  have x12:=Lib.cell_of_heap (HX.out _ hbw) 12
  have y12:=Lib.cell_of_heap (HY.out _ hbw) 12
  simp only[List.getElem?_toArray,List.getElem?_cons_zero,List.getElem?_cons_succ] at x12 y12
  by_cases hlt:k<signs.length
  ·obtain⟨b,o,hA,hb,hcs⟩:=HSI.out (by intro e;rw[e] at hlt;simp at hlt)
   obtain⟨b',o',hA',hb',hcs'⟩:=HSI'.out (by intro e;rw[e] at hlt;simp at hlt)
   have hww:Below w.heap.size w wr:=BB.out.trans (hbw.mono BB.out.size)
   have d0:=(hww.cell (p:=⟨b,_,none⟩) hb).trans (hcs k hlt)
   have e0:=(hww.cell (p:=⟨b',_,none⟩) hb').trans (hcs' k hlt)
   rw[hA] at x12
   rw[hA'] at y12
   generalize signs[k]=sg at *
   have hi0:(0:Int)≤(k:Int):=Int.natCast_nonneg _
   have hi1:(k:Int)<(signs.length:Int):=by omega
   have HD:Hid (Below wb.heap.size wb wr.drew):=Lib.hid hbw.drew
   clear hcs hcs' hA hA' hww
   go_wp2_with fail
   refine wp_region_still_tail 10 (by kernel_rfl) (by kernel_rfl) ?_
   simp only[List.take_succ_cons,List.take_zero,List.drop_succ_cons,List.drop_zero]
   change wpStill Tryz.prog _ wr.drew _ _ _
   repeat still_step
   try refine wpStill_nil ?_
   change wpList _ _ _ _ _ wr.drew
   go_wp2_with fail
   go_roundw
   case rel=>exact⟨k+1,by omega,rfl,by go_num,HD.out⟩
   case measure=>simp[intOf];omega
  ·obtain⟨wz,hwz⟩:∃wz,wr=wz:=⟨_,rfl⟩
   subst hwz
   have HZ:=Lib.hid hbw
   go_wp2_with fail
   go_loopw [7,9] (fun okv i wr=>∃k:Nat,k≤orders.length∧okv=.bool true∧i=.int .i64 k∧Below wb.heap.size wb wr) (fun _ i _=>orders.length-(intOf i).toNat)
   case atStart=>exact⟨0,by omega,rfl,rfl,HZ.out⟩
   case round =>
    clear x12 y12 hlt
    obtain⟨k,hk,rfl,rfl,hbw⟩:=hrel
    have x13:=Lib.cell_of_heap (HX.out _ hbw) 13
    have y13:=Lib.cell_of_heap (HY.out _ hbw) 13
    simp only[List.getElem?_toArray,List.getElem?_cons_zero,List.getElem?_cons_succ] at x13 y13
    by_cases hlt:k<orders.length
    ·obtain⟨b,o,hA,hb,hcs⟩:=HOD.out (by intro e;rw[e] at hlt;simp at hlt)
     obtain⟨b',o',hA',hb',hcs'⟩:=HOD'.out (by intro e;rw[e] at hlt;simp at hlt)
     have hww:Below w.heap.size w wr:=BB.out.trans (hbw.mono BB.out.size)
     have hbr:b<wr.heap.size:=Nat.lt_of_lt_of_le hb hww.size
     have hbr':b'<wr.heap.size:=Nat.lt_of_lt_of_le hb' hww.size
     obtain⟨v0,v1,v2,d0,hn0,d1,d2,d3,hT⟩:=(hcs k hlt).below hww hb
     obtain⟨u0,u1,u2,e0,hn0',e1,e2,e3,hT'⟩:=(hcs' k hlt).below hww hb'
     have bd:Below wr.heap.size wr wr.drew:=(Below.refl _ _).drew
     have CALL:=Lib.hid (sOrder_upto 100000 (by omega) orders[k].2 _ _ wr.drew (HF8.out _ (List.getElem_mem _)) ⟨_,_,_,rfl,OrdC.below bd _ _ _ _ hT⟩ ⟨_,_,_,rfl,OrdC.below bd _ _ _ _ hT'⟩)
     rw[hA] at x13
     rw[hA'] at y13
     generalize orders[k].1=nm at *
     have hi0:(0:Int)≤(k:Int):=Int.natCast_nonneg _
     have hi1:(k:Int)<(orders.length:Int):=by omega
     have HD:Hid (Below wb.heap.size wb wr.drew):=Lib.hid hbw.drew
     clear hcs hcs' hA hA' hww hT hT' hn0 hn0'
     go_wp2_with fail
     refine wp_region_still_tail 26 (by kernel_rfl) (by kernel_rfl) ?_
     simp only[List.take_succ_cons,List.take_zero,List.drop_succ_cons,List.drop_zero]
     change wpStill Tryz.prog _ wr.drew _ _ _
     repeat still_step
     try refine wpStill_nil ?_
     change wpList _ _ _ _ _ wr.drew
     go_wp2_with fail
     refine CALL.out.mono ?_
     rintro e w1⟨rfl,hb1⟩
     go_wp2_with fail
     go_roundw
     case rel=>exact⟨k+1,by omega,rfl,by go_num,HD.out.trans (hb1.mono HD.out.size)⟩
     case measure=>simp[intOf];omega
    ·have HZ2:=Lib.hid hbw
     go_wp2_with fail
     go_ret
     exact⟨rfl,BB.out.trans (HZ2.out.mono BB.out.size)⟩
end Go.Proofs.YthajalgkjonaaaaGreatDoor
namespace Lfc
def Ord.no:Ord→Bool
 |.node k a ps=>decide (k=0) && decide (a=0) && decide (ps.length=0)
def Itm.lens(x:Itm):Nat:=x.type.length+x.value.length+x.som.length+x.params.length+x.blocks.length+x.fams.length+x.signs.length+x.orders.length
def Itm.blank(x:Itm):Bool:=decide (x.lens=0) && decide (x.name=[]) && (decide (x.op.name=[]) && decide (x.op.fix=0) && decide (x.op.prec=0)) && x.left.no && x.right.no && decide (x.rel=0) && decide (x.count=0)
end Lfc
namespace Go.Proofs.YthajalgkjonaaaaGreatDoor
open Go.RowKit
theorem it_set{w:World}{K:Nat}{cs:Array Value}(h:w.heap[K]?=some (.cells cs 42 (0,0)))(hs:cs.size=22)(j:Nat)(v:Value)(hj:j<22) :
  ∃s u,w.setCell ⟨K,j,none⟩ v=s∧w.cell? ⟨K,j,none⟩=some u∧w.frozen? ⟨K,j,none⟩=false∧Hid (s.heap[K]?=some (.cells (cs.setIfInBounds j v) 42 (0,0))∧(cs.setIfInBounds j v).size=22∧Oth K w s) :=
 ⟨_,cs[j]'(by omega),rfl,(Lib.cell_of_heap h j).trans (Array.getElem?_eq_getElem _),Lib.frozen_of_heap h j,Lib.hid ⟨by simp[World.setCell,Array.getElem?_modify,h],by simpa using hs,Oth.set _ _⟩⟩
theorem it_loadC{w:World}{b o:Nat}{cs:Array Value}(h:∀j v,cs[j]?=some v→w.cell? ⟨b,o+j,none⟩=some v)(hs:cs.size=22):(Instr.loadAt 42 (.pointer (some ⟨b,o,none⟩))).run Tryz.prog w=.ok (.agg cs) w :=
 run_loadAt_mid w b o 42 cs.toList _ (fun j v hv=>h j v (by simpa using hv)) Tryz.underlying42 rfl (by rw[Array.length_toList,hs];kernel_rfl)
theorem it_load{w:World}{K:Nat}{cs:Array Value}(h:w.heap[K]?=some (.cells cs 42 (0,0)))(hs:cs.size=22):(Instr.loadAt 42 (.pointer (some ⟨K,0,none⟩))).run Tryz.prog w=.ok (.agg cs) w :=
 it_loadC (fun j v hv=>by rw[Nat.zero_add,Lib.cell_of_heap h j];exact hv) hs
theorem wpList_it{ops:Array Oper}{rest:List Oper}{o:Oper}{a:Act}{w:World}{Q:Exit→Act→World→Prop}{x:Operand}{p:Value}{cs:Array Value}(ho:o.op=.load 42 x)(hx:a.eval x=p)(hw:Region.wanted o (yielded ops a.tmps)=true)
  (hl:(Instr.loadAt 42 p).run Tryz.prog w=.ok (.agg cs) w) (h:wpList Tryz.prog ops Q rest (a.put o.dst (.agg cs)) w):wpList Tryz.prog ops Q (o :: rest) a w:=by
 refine wpList_step fun K hK=>?_
 rw[if_pos hw]
 unfold Oper.wp execOp
 simp only[ho,hx,Sem.run_bind,Sem.run_pure,Result.andThen_ok,hl]
 exact hK _ _ h
set_option maxRecDepth 100000 in
set_option maxHeartbeats 2000000 in
theorem noOrder_any(k a:Int)(A:Option Addr)(n c:Nat)(w:World):Calls Tryz.prog 148 #[.agg #[.int .i64 k,.int .i64 a,.slice A n c]] w fun e w'=>e=.returned (.bool (decide (k=0) && decide (a=0) && decide (n=0)))∧Below w.heap.size w w':=by
 obtain⟨w1,hw1⟩:∃w1,w.alloc (.cells #[.int .i64 k,.int .i64 a,.slice A n c] 40)=w1:=⟨_,rfl⟩
 have b1:Below w.heap.size w w1:=by rw[←hw1];exact(Below.refl _ _).alloc (Nat.le_refl _) _
 have q1:w1.heap[w.heap.size]?=some (.cells #[.int .i64 k,.int .i64 a,.slice A n c] 40 (0,0)):=by rw[←hw1];exact heap_alloc_new _ _
 have x0:=Lib.cell_of_heap q1 0
 have x1:=Lib.cell_of_heap q1 1
 have x2:=Lib.cell_of_heap q1 2
 simp at x0 x1 x2
 clear q1
 have e1:(k == 0)=decide (k=0):=by by_cases h:k=0 <;> simp[h]
 have e2:(a == 0)=decide (a=0):=by by_cases h:a=0 <;> simp[h]
 have e3:((n:Int) == 0)=decide (n=0):=by by_cases h:n=0 <;> simp[h]
 generalize decide (k=0)=p1 at *
 generalize decide (a=0)=p2 at *
 generalize decide (n=0)=p3 at *
 cases p1
 ·go_enter Tryz.func148,Tryz.ntmps148
  go_upto_region 1 with fail
  clear hw1
  go_wp2_with fail
  go_ret
  exact⟨rfl,b1⟩
 cases p2
 ·go_enter Tryz.func148,Tryz.ntmps148
  go_upto_region 1 with fail
  clear hw1
  go_wp2_with fail
  go_ret
  exact⟨rfl,b1⟩
 go_enter Tryz.func148,Tryz.ntmps148
 go_upto_region 1 with fail
 clear hw1
 go_wp2_with fail
 go_ret
 exact⟨rfl,b1⟩
theorem op_guard:Tryz.prog.eqGuardType Tryz.prog.depth 34=false:=by kernel_rfl
theorem op_zero(n:List UInt8)(f p:Int)(w:World):(Op.equalIn 10000 34 (.agg #[S n,.int .i64 f,.int .i64 p]) (.agg #[S [],.int .i64 0,.int .i64 0])).run Tryz.prog w=.ok (decide (n=[]) && decide (f=0) && decide (p=0)) w:=by
 have u3:=Tryz.underlying3
 have a3:=Tryz.isAgg3
 have z3:=Tryz.sizeOf3
 have u9:=Tryz.underlying9
 have a9:=Tryz.isAgg9
 have z9:=Tryz.sizeOf9
 have hS:Tryz.prog.underlying 34=some (.struct (Tryz.prog.fieldsOf 34)):=by kernel_rfl
 have hp:Tryz.prog.stoodInHeld 34=false:=by kernel_rfl
 rw[show(10000:Nat)=9999+1 from rfl,run_equalIn_agg w 9999 34 _ _ hS hp]
 simp only[Program.fieldsOf,Tryz.underlying34]
 go_simp
 by_cases h1:n=[] <;> by_cases h2:f=0 <;> by_cases h3:p=0 <;> simp[h1,h2,h3]
set_option maxRecDepth 100000 in
set_option maxHeartbeats 8000000 in
theorem only_any(F:FuncId)(he:∀args w,(callFunc F args).run Tryz.prog w=.ok (.enter F args) w)(x x':Lfc.Itm)(s s':IS)(w:World)(hx:x'.lens≤1000000)
  (hF:∀(W:World)(K:Nat),W.heap[K]?=some (.cells (itCells x s) 42 (0,0))→Calls Tryz.prog F #[.pointer (some ⟨K,0,none⟩)] W fun e w'=>e=.returned (.tuple #[])∧Oth K W w'∧w'.heap[K]?=some (.cells (itCells x' s') 42 (0,0))) :
  Calls Tryz.prog 81 #[.agg (itCells x s),.func (.func F) #[] #[]] w fun e w'=>e=.returned (.bool x'.blank)∧Below w.heap.size w w':=by
 obtain⟨w1,hw1⟩:∃w1,w.alloc (.cells (itCells x s) 42)=w1:=⟨_,rfl⟩
 have b1:Below w.heap.size w w1:=by rw[←hw1];exact(Below.refl _ _).alloc (Nat.le_refl _) _
 have q1:w1.heap[w.heap.size]?=some (.cells (itCells x s) 42 (0,0)):=by rw[←hw1];exact heap_alloc_new _ _
 have C:=Lib.hid (hF w1 w.heap.size q1)
 have HLT:=Lib.hid (lt_of_block q1)
 clear hF q1
 obtain⟨c0,c1,c2,c3,c4,c5,c6,c7,c8,c9,c10,c11,c12,c13,c14,c15,c16,c17,c18,c19,c20,c21,hcs⟩:∃c0 c1 c2 c3 c4 c5 c6 c7 c8 c9 c10 c11 c12 c13 c14 c15 c16 c17 c18 c19 c20 c21,itCells x s=#[c0,c1,c2,c3,c4,c5,c6,c7,c8,c9,c10,c11,c12,c13,c14,c15,c16,c17,c18,c19,c20,c21]:=⟨_,_,_,_,_,_,_,_,_,_,_,_,_,_,_,_,_,_,_,_,_,_,rfl⟩
 rw[hcs] at hw1 ⊢
 have HCS:=Lib.hid hcs
 clear hcs
 have main:∀(p1 p2 p3 p4 p5 p6 p7:Bool),(x'.lens=0↔p1=true)→decide (x'.name=[])=p2→(decide (x'.op.name=[]) && decide (x'.op.fix=0) && decide (x'.op.prec=0))=p3→x'.left.no=p4→x'.right.no=p5→decide (x'.rel=0)=p6→decide (x'.count=0)=p7 →
   Calls Tryz.prog 81 #[.agg #[c0,c1,c2,c3,c4,c5,c6,c7,c8,c9,c10,c11,c12,c13,c14,c15,c16,c17,c18,c19,c20,c21],.func (.func F) #[] #[]] w fun e w'=>e=.returned (.bool (p1 && p2 && p3 && p4 && p5 && p6 && p7))∧Below w.heap.size w w':=by
  intro p1 p2 p3 p4 p5 p6 p7 h1 h2 h3 h4 h5 h6 h7
  obtain⟨kind,pos,name,type,value,⟨on,of,op⟩,som,params,blocks,fams,signs,orders,⟨lk,la,lp⟩,⟨rk,ra,rp⟩,rel,count⟩:=x'
  simp only[Lfc.Itm.lens,Lfc.Ord.no] at h1 h2 h3 h4 h5 h6 h7 hx
  have e1:((type.length:Int)+value.length+som.length+params.length+blocks.length+fams.length+signs.length+orders.length == 0)=p1:=by
   by_cases h:type.length+value.length+som.length+params.length+blocks.length+fams.length+signs.length+orders.length=0
   ·rw[h1.1 h];simp only[beq_iff_eq];omega
   ·have hp:p1=false:=by
     cases p1
     ·rfl
     ·exact absurd (h1.2 rfl) h
    rw[hp];simp only[beq_eq_false_iff_ne,ne_eq];omega
  have e2:(name == [])=p2:=by rw[←h2];by_cases h:name=[] <;> simp[h]
  have e3:∀W:World,(Op.equalIn 10000 34 (.agg #[S on,.int .i64 of,.int .i64 op]) (.agg #[S [],.int .i64 0,.int .i64 0])).run Tryz.prog W=.ok p3 W:=fun W=>by rw[op_zero,h3]
  have e3':=op_guard
  have e6:(rel == 0)=p6:=by rw[←h6];by_cases h:rel=0 <;> simp[h]
  have e7:(count == 0)=p7:=by rw[←h7];by_cases h:count=0 <;> simp[h]
  have s1:IntKind.i64.wrap ((type.length:Int)+value.length)=(type.length:Int)+value.length:=IntWalk.i64_in _ (by omega)
  have s2:IntKind.i64.wrap ((type.length:Int)+value.length+som.length)=(type.length:Int)+value.length+som.length:=IntWalk.i64_in _ (by omega)
  have s3:IntKind.i64.wrap ((type.length:Int)+value.length+som.length+params.length)=(type.length:Int)+value.length+som.length+params.length:=IntWalk.i64_in _ (by omega)
  have s4:IntKind.i64.wrap ((type.length:Int)+value.length+som.length+params.length+blocks.length)=(type.length:Int)+value.length+som.length+params.length+blocks.length:=IntWalk.i64_in _ (by omega)
  have s5:IntKind.i64.wrap ((type.length:Int)+value.length+som.length+params.length+blocks.length+fams.length)=(type.length:Int)+value.length+som.length+params.length+blocks.length+fams.length:=IntWalk.i64_in _ (by omega)
  have s6:IntKind.i64.wrap ((type.length:Int)+value.length+som.length+params.length+blocks.length+fams.length+signs.length)=(type.length:Int)+value.length+som.length+params.length+blocks.length+fams.length+signs.length:=IntWalk.i64_in _ (by omega)
  have s7:IntKind.i64.wrap ((type.length:Int)+value.length+som.length+params.length+blocks.length+fams.length+signs.length+orders.length)=(type.length:Int)+value.length+som.length+params.length+blocks.length+fams.length+signs.length+orders.length:=IntWalk.i64_in _ (by omega)
  have CL:=Lib.hid (fun W=>noOrder_any lk la s'.le.1 lp.length s'.le.2 W)
  have CR:=Lib.hid (fun W=>noOrder_any rk ra s'.ri.1 rp.length s'.ri.2 W)
  rw[h4] at CL
  rw[h5] at CR
  simp only[itCells,Lfc.Ord.k,Lfc.Ord.a,Lfc.Ord.ps] at C
  generalize type.length=n1 at *
  generalize value.length=n2 at *
  generalize som.length=n3 at *
  generalize params.length=n4 at *
  generalize blocks.length=n5 at *
  generalize fams.length=n6 at *
  generalize signs.length=n7 at *
  generalize orders.length=n8 at *
  generalize lp.length=n9 at *
  generalize rp.length=n10 at *
  clear h1 h2 h3 h4 h5 h6 h7
  cases p1
  ·go_enter Tryz.func81,Tryz.ntmps81
   go_upto_region 1 with fail
   clear hw1
   go_upto_region 2 with(go_simp;refine C.out.mono ?_;rintro e w2⟨rfl,o2,q2⟩)
   have b2:Below w.heap.size w w2:=Oth.below b1 o2 (Nat.le_refl _) (Nat.le_of_lt HLT.out)
   have y2:=Lib.cell_of_heap q2 2
   have y3:=Lib.cell_of_heap q2 3
   have y4:=Lib.cell_of_heap q2 4
   have y5:=Lib.cell_of_heap q2 5
   have y6:=Lib.cell_of_heap q2 6
   have y7:=Lib.cell_of_heap q2 7
   have y8:=Lib.cell_of_heap q2 8
   have y9:=Lib.cell_of_heap q2 9
   have y10:=Lib.cell_of_heap q2 10
   have y11:=Lib.cell_of_heap q2 11
   have y12:=Lib.cell_of_heap q2 12
   have y13:=Lib.cell_of_heap q2 13
   have y14:=Lib.cell_of_heap q2 14
   have y15:=Lib.cell_of_heap q2 15
   have y16:=Lib.cell_of_heap q2 16
   have y17:=Lib.cell_of_heap q2 17
   have y18:=Lib.cell_of_heap q2 18
   have y19:=Lib.cell_of_heap q2 19
   have y20:=Lib.cell_of_heap q2 20
   have y21:=Lib.cell_of_heap q2 21
   simp at y2 y3 y4 y5 y6 y7 y8 y9 y10 y11 y12 y13 y14 y15 y16 y17 y18 y19 y20 y21
   clear q2 o2
   go_wp2_with fail
   go_ret
   exact⟨by simp,b2⟩
  cases p2
  ·go_enter Tryz.func81,Tryz.ntmps81
   go_upto_region 1 with fail
   clear hw1
   go_upto_region 2 with(go_simp;refine C.out.mono ?_;rintro e w2⟨rfl,o2,q2⟩)
   have b2:Below w.heap.size w w2:=Oth.below b1 o2 (Nat.le_refl _) (Nat.le_of_lt HLT.out)
   have y2:=Lib.cell_of_heap q2 2
   have y3:=Lib.cell_of_heap q2 3
   have y4:=Lib.cell_of_heap q2 4
   have y5:=Lib.cell_of_heap q2 5
   have y6:=Lib.cell_of_heap q2 6
   have y7:=Lib.cell_of_heap q2 7
   have y8:=Lib.cell_of_heap q2 8
   have y9:=Lib.cell_of_heap q2 9
   have y10:=Lib.cell_of_heap q2 10
   have y11:=Lib.cell_of_heap q2 11
   have y12:=Lib.cell_of_heap q2 12
   have y13:=Lib.cell_of_heap q2 13
   have y14:=Lib.cell_of_heap q2 14
   have y15:=Lib.cell_of_heap q2 15
   have y16:=Lib.cell_of_heap q2 16
   have y17:=Lib.cell_of_heap q2 17
   have y18:=Lib.cell_of_heap q2 18
   have y19:=Lib.cell_of_heap q2 19
   have y20:=Lib.cell_of_heap q2 20
   have y21:=Lib.cell_of_heap q2 21
   simp at y2 y3 y4 y5 y6 y7 y8 y9 y10 y11 y12 y13 y14 y15 y16 y17 y18 y19 y20 y21
   clear q2 o2
   go_wp2_with fail
   go_ret
   exact⟨by simp,b2⟩
  cases p3
  ·go_enter Tryz.func81,Tryz.ntmps81
   go_upto_region 1 with fail
   clear hw1
   go_upto_region 2 with(go_simp;refine C.out.mono ?_;rintro e w2⟨rfl,o2,q2⟩)
   have b2:Below w.heap.size w w2:=Oth.below b1 o2 (Nat.le_refl _) (Nat.le_of_lt HLT.out)
   have y2:=Lib.cell_of_heap q2 2
   have y3:=Lib.cell_of_heap q2 3
   have y4:=Lib.cell_of_heap q2 4
   have y5:=Lib.cell_of_heap q2 5
   have y6:=Lib.cell_of_heap q2 6
   have y7:=Lib.cell_of_heap q2 7
   have y8:=Lib.cell_of_heap q2 8
   have y9:=Lib.cell_of_heap q2 9
   have y10:=Lib.cell_of_heap q2 10
   have y11:=Lib.cell_of_heap q2 11
   have y12:=Lib.cell_of_heap q2 12
   have y13:=Lib.cell_of_heap q2 13
   have y14:=Lib.cell_of_heap q2 14
   have y15:=Lib.cell_of_heap q2 15
   have y16:=Lib.cell_of_heap q2 16
   have y17:=Lib.cell_of_heap q2 17
   have y18:=Lib.cell_of_heap q2 18
   have y19:=Lib.cell_of_heap q2 19
   have y20:=Lib.cell_of_heap q2 20
   have y21:=Lib.cell_of_heap q2 21
   simp at y2 y3 y4 y5 y6 y7 y8 y9 y10 y11 y12 y13 y14 y15 y16 y17 y18 y19 y20 y21
   clear q2 o2
   go_wp2_with fail
   go_ret
   exact⟨by simp,b2⟩
  cases p4
  ·go_enter Tryz.func81,Tryz.ntmps81
   go_upto_region 1 with fail
   clear hw1
   go_upto_region 2 with(go_simp;refine C.out.mono ?_;rintro e w2⟨rfl,o2,q2⟩)
   have b2:Below w.heap.size w w2:=Oth.below b1 o2 (Nat.le_refl _) (Nat.le_of_lt HLT.out)
   have y2:=Lib.cell_of_heap q2 2
   have y3:=Lib.cell_of_heap q2 3
   have y4:=Lib.cell_of_heap q2 4
   have y5:=Lib.cell_of_heap q2 5
   have y6:=Lib.cell_of_heap q2 6
   have y7:=Lib.cell_of_heap q2 7
   have y8:=Lib.cell_of_heap q2 8
   have y9:=Lib.cell_of_heap q2 9
   have y10:=Lib.cell_of_heap q2 10
   have y11:=Lib.cell_of_heap q2 11
   have y12:=Lib.cell_of_heap q2 12
   have y13:=Lib.cell_of_heap q2 13
   have y14:=Lib.cell_of_heap q2 14
   have y15:=Lib.cell_of_heap q2 15
   have y16:=Lib.cell_of_heap q2 16
   have y17:=Lib.cell_of_heap q2 17
   have y18:=Lib.cell_of_heap q2 18
   have y19:=Lib.cell_of_heap q2 19
   have y20:=Lib.cell_of_heap q2 20
   have y21:=Lib.cell_of_heap q2 21
   simp at y2 y3 y4 y5 y6 y7 y8 y9 y10 y11 y12 y13 y14 y15 y16 y17 y18 y19 y20 y21
   clear q2 o2
   go_wp2_with (go_at_call 148;refine(CL.out _).mono ?_;rintro e w3⟨rfl,b3⟩;have z3:=b2.trans (b3.mono b2.size))
   go_ret
   exact⟨by simp,z3⟩
  cases p5
  ·go_enter Tryz.func81,Tryz.ntmps81
   go_upto_region 1 with fail
   clear hw1
   go_upto_region 2 with(go_simp;refine C.out.mono ?_;rintro e w2⟨rfl,o2,q2⟩)
   have b2:Below w.heap.size w w2:=Oth.below b1 o2 (Nat.le_refl _) (Nat.le_of_lt HLT.out)
   have y2:=Lib.cell_of_heap q2 2
   have y3:=Lib.cell_of_heap q2 3
   have y4:=Lib.cell_of_heap q2 4
   have y5:=Lib.cell_of_heap q2 5
   have y6:=Lib.cell_of_heap q2 6
   have y7:=Lib.cell_of_heap q2 7
   have y8:=Lib.cell_of_heap q2 8
   have y9:=Lib.cell_of_heap q2 9
   have y10:=Lib.cell_of_heap q2 10
   have y11:=Lib.cell_of_heap q2 11
   have y12:=Lib.cell_of_heap q2 12
   have y13:=Lib.cell_of_heap q2 13
   have y14:=Lib.cell_of_heap q2 14
   have y15:=Lib.cell_of_heap q2 15
   have y16:=Lib.cell_of_heap q2 16
   have y17:=Lib.cell_of_heap q2 17
   have y18:=Lib.cell_of_heap q2 18
   have y19:=Lib.cell_of_heap q2 19
   have y20:=Lib.cell_of_heap q2 20
   have y21:=Lib.cell_of_heap q2 21
   simp at y2 y3 y4 y5 y6 y7 y8 y9 y10 y11 y12 y13 y14 y15 y16 y17 y18 y19 y20 y21
   clear q2 o2
   have HR:=Lib.hid (fun W (hb:Below w2.heap.size w2 W)=>And.intro ((hb.cell (p:=⟨w.heap.size,17,none⟩) (lt_of_cell' y17)).trans y17) (And.intro ((hb.cell (p:=⟨w.heap.size,18,none⟩) (lt_of_cell' y18)).trans y18) (And.intro ((hb.cell (p:=⟨w.heap.size,19,none⟩) (lt_of_cell' y19)).trans y19) (And.intro ((hb.cell (p:=⟨w.heap.size,20,none⟩) (lt_of_cell' y20)).trans y20) ((hb.cell (p:=⟨w.heap.size,21,none⟩) (lt_of_cell' y21)).trans y21)))))
   go_wp2_with (go_at_call 148;first | ((with_reducible refine(CL.out _).mono ?_);rintro e w3⟨rfl,b3⟩;obtain⟨z17,z18,z19,z20,z21⟩:=HR.out _ b3;have b4:=b2.trans (b3.mono b2.size)) | ((with_reducible refine(CR.out _).mono ?_);rintro e w5⟨rfl,b5⟩;have b6:=b4.trans (b5.mono b4.size);have t20:=(b5.cell (p:=⟨w.heap.size,20,none⟩) (lt_of_cell' z20)).trans z20;have t21:=(b5.cell (p:=⟨w.heap.size,21,none⟩) (lt_of_cell' z21)).trans z21))
   go_ret
   exact⟨by simp,by first | exact b6 | exact b4⟩
  cases p6
  ·go_enter Tryz.func81,Tryz.ntmps81
   go_upto_region 1 with fail
   clear hw1
   go_upto_region 2 with(go_simp;refine C.out.mono ?_;rintro e w2⟨rfl,o2,q2⟩)
   have b2:Below w.heap.size w w2:=Oth.below b1 o2 (Nat.le_refl _) (Nat.le_of_lt HLT.out)
   have y2:=Lib.cell_of_heap q2 2
   have y3:=Lib.cell_of_heap q2 3
   have y4:=Lib.cell_of_heap q2 4
   have y5:=Lib.cell_of_heap q2 5
   have y6:=Lib.cell_of_heap q2 6
   have y7:=Lib.cell_of_heap q2 7
   have y8:=Lib.cell_of_heap q2 8
   have y9:=Lib.cell_of_heap q2 9
   have y10:=Lib.cell_of_heap q2 10
   have y11:=Lib.cell_of_heap q2 11
   have y12:=Lib.cell_of_heap q2 12
   have y13:=Lib.cell_of_heap q2 13
   have y14:=Lib.cell_of_heap q2 14
   have y15:=Lib.cell_of_heap q2 15
   have y16:=Lib.cell_of_heap q2 16
   have y17:=Lib.cell_of_heap q2 17
   have y18:=Lib.cell_of_heap q2 18
   have y19:=Lib.cell_of_heap q2 19
   have y20:=Lib.cell_of_heap q2 20
   have y21:=Lib.cell_of_heap q2 21
   simp at y2 y3 y4 y5 y6 y7 y8 y9 y10 y11 y12 y13 y14 y15 y16 y17 y18 y19 y20 y21
   clear q2 o2
   have HR:=Lib.hid (fun W (hb:Below w2.heap.size w2 W)=>And.intro ((hb.cell (p:=⟨w.heap.size,17,none⟩) (lt_of_cell' y17)).trans y17) (And.intro ((hb.cell (p:=⟨w.heap.size,18,none⟩) (lt_of_cell' y18)).trans y18) (And.intro ((hb.cell (p:=⟨w.heap.size,19,none⟩) (lt_of_cell' y19)).trans y19) (And.intro ((hb.cell (p:=⟨w.heap.size,20,none⟩) (lt_of_cell' y20)).trans y20) ((hb.cell (p:=⟨w.heap.size,21,none⟩) (lt_of_cell' y21)).trans y21)))))
   go_wp2_with (go_at_call 148;first | ((with_reducible refine(CL.out _).mono ?_);rintro e w3⟨rfl,b3⟩;obtain⟨z17,z18,z19,z20,z21⟩:=HR.out _ b3;have b4:=b2.trans (b3.mono b2.size)) | ((with_reducible refine(CR.out _).mono ?_);rintro e w5⟨rfl,b5⟩;have b6:=b4.trans (b5.mono b4.size);have t20:=(b5.cell (p:=⟨w.heap.size,20,none⟩) (lt_of_cell' z20)).trans z20;have t21:=(b5.cell (p:=⟨w.heap.size,21,none⟩) (lt_of_cell' z21)).trans z21))
   go_ret
   exact⟨by simp,by first | exact b6 | exact b4⟩
  go_enter Tryz.func81,Tryz.ntmps81
  go_upto_region 1 with fail
  clear hw1
  go_upto_region 2 with(go_simp;refine C.out.mono ?_;rintro e w2⟨rfl,o2,q2⟩)
  have b2:Below w.heap.size w w2:=Oth.below b1 o2 (Nat.le_refl _) (Nat.le_of_lt HLT.out)
  have y2:=Lib.cell_of_heap q2 2
  have y3:=Lib.cell_of_heap q2 3
  have y4:=Lib.cell_of_heap q2 4
  have y5:=Lib.cell_of_heap q2 5
  have y6:=Lib.cell_of_heap q2 6
  have y7:=Lib.cell_of_heap q2 7
  have y8:=Lib.cell_of_heap q2 8
  have y9:=Lib.cell_of_heap q2 9
  have y10:=Lib.cell_of_heap q2 10
  have y11:=Lib.cell_of_heap q2 11
  have y12:=Lib.cell_of_heap q2 12
  have y13:=Lib.cell_of_heap q2 13
  have y14:=Lib.cell_of_heap q2 14
  have y15:=Lib.cell_of_heap q2 15
  have y16:=Lib.cell_of_heap q2 16
  have y17:=Lib.cell_of_heap q2 17
  have y18:=Lib.cell_of_heap q2 18
  have y19:=Lib.cell_of_heap q2 19
  have y20:=Lib.cell_of_heap q2 20
  have y21:=Lib.cell_of_heap q2 21
  simp at y2 y3 y4 y5 y6 y7 y8 y9 y10 y11 y12 y13 y14 y15 y16 y17 y18 y19 y20 y21
  clear q2 o2
  have HR:=Lib.hid (fun W (hb:Below w2.heap.size w2 W)=>And.intro ((hb.cell (p:=⟨w.heap.size,17,none⟩) (lt_of_cell' y17)).trans y17) (And.intro ((hb.cell (p:=⟨w.heap.size,18,none⟩) (lt_of_cell' y18)).trans y18) (And.intro ((hb.cell (p:=⟨w.heap.size,19,none⟩) (lt_of_cell' y19)).trans y19) (And.intro ((hb.cell (p:=⟨w.heap.size,20,none⟩) (lt_of_cell' y20)).trans y20) ((hb.cell (p:=⟨w.heap.size,21,none⟩) (lt_of_cell' y21)).trans y21)))))
  go_wp2_with (go_at_call 148;first | ((with_reducible refine(CL.out _).mono ?_);rintro e w3⟨rfl,b3⟩;obtain⟨z17,z18,z19,z20,z21⟩:=HR.out _ b3;have b4:=b2.trans (b3.mono b2.size)) | ((with_reducible refine(CR.out _).mono ?_);rintro e w5⟨rfl,b5⟩;have b6:=b4.trans (b5.mono b4.size);have t20:=(b5.cell (p:=⟨w.heap.size,20,none⟩) (lt_of_cell' z20)).trans z20;have t21:=(b5.cell (p:=⟨w.heap.size,21,none⟩) (lt_of_cell' z21)).trans z21))
  go_ret
  exact⟨by simp,by first | exact b6 | exact b4⟩
 have:=main (decide (x'.lens=0)) _ _ _ _ _ _ (by simp) rfl rfl rfl rfl rfl rfl
 exact this
set_option maxRecDepth 100000 in
set_option maxHeartbeats 2000000 in
theorem clr1(x:Lfc.Itm)(s:IS)(K:Nat)(w:World)(h:w.heap[K]?=some (.cells (itCells x s) 42 (0,0))):Calls Tryz.prog 82 #[.pointer (some ⟨K,0,none⟩)] w fun e w'=>e=.returned (.tuple #[])∧Oth K w w'∧w'.heap[K]?=some (.cells (itCells { x with name:=[],type:=[] } { s with ty:=(none,0) }) 42 (0,0)):=by
 have g0:=Lib.hid (And.intro h (And.intro (show(itCells x s).size=22 from rfl) (Oth.refl K w)))
 obtain⟨s1,u1,e1,y1,z1,g1⟩:=it_set g0.out.1 g0.out.2.1 2 (S []) (by decide)
 obtain⟨s2,u2,e2,y2,z2,g2⟩:=it_set g1.out.1 g1.out.2.1 3 (.slice none 0 0) (by decide)
 have R:=Lib.hid (And.intro (((Oth.refl K w).trans g1.out.2.2).trans g2.out.2.2) g2.out.1)
 clear h g0 g1 g2
 go_enter Tryz.func82,Tryz.ntmps82
 go_wp2_with fail
 go_end0
 exact⟨rfl,R.out.1,R.out.2.trans (by obtain⟨_,_,_,_,_,⟨_,_,_⟩,_,_,_,_,_,_,⟨_,_,_⟩,⟨_,_,_⟩,_,_⟩:=x;rfl)⟩
set_option maxRecDepth 100000 in
set_option maxHeartbeats 2000000 in
theorem clr3(x:Lfc.Itm)(s:IS)(K:Nat)(w:World)(h:w.heap[K]?=some (.cells (itCells x s) 42 (0,0))):Calls Tryz.prog 84 #[.pointer (some ⟨K,0,none⟩)] w fun e w'=>e=.returned (.tuple #[])∧Oth K w w'∧w'.heap[K]?=some (.cells (itCells { x with op:=⟨[],0,0⟩ } s) 42 (0,0)):=by
 have g0:=Lib.hid (And.intro h (And.intro (show(itCells x s).size=22 from rfl) (Oth.refl K w)))
 obtain⟨s1,u1,e1,y1,z1,g1⟩:=it_set g0.out.1 g0.out.2.1 5 (S []) (by decide)
 obtain⟨s2,u2,e2,y2,z2,g2⟩:=it_set g1.out.1 g1.out.2.1 6 (.int .i64 0) (by decide)
 obtain⟨s3,u3,e3,y3,z3,g3⟩:=it_set g2.out.1 g2.out.2.1 7 (.int .i64 0) (by decide)
 have R:=Lib.hid (And.intro ((((Oth.refl K w).trans g1.out.2.2).trans g2.out.2.2).trans g3.out.2.2) g3.out.1)
 clear h g0 g1 g2 g3
 go_enter Tryz.func84,Tryz.ntmps84
 go_wp2_with fail
 go_end0
 exact⟨rfl,R.out.1,R.out.2.trans (by obtain⟨_,_,_,_,_,⟨_,_,_⟩,_,_,_,_,_,_,⟨_,_,_⟩,⟨_,_,_⟩,_,_⟩:=x;rfl)⟩
end Go.Proofs.YthajalgkjonaaaaGreatDoor
namespace Lfc
mutual
def Ord.ofm(o:Int):Ord→Bool
 |.node k a ps=>if k=1 then decide (1≤a) && decide (a≤64) && decide (ps.length=0) else if k=2∨k=3 then decide (a=0) && decide (0<ps.length) && decide (o+1<128) && Ord.ofms (o+1) ps else false
def Ord.ofms(o:Int):List Ord→Bool
 |[]=>true
 |a :: r=>Ord.ofm o a && Ord.ofms o r
end
def namesF'(l:List (List UInt8)):Bool:=!l.any fun s=>!isName s
def bndsF(l:List Bnd):Bool:=!l.any fun b=>!isName b.1
def fordsF(l:List (List UInt8 × Ord)):Bool:=decide (0<l.length) && !l.any fun x=>!isName x.1 || !x.2.ofm 0
def signBad(i:Int):Bool:=decide (i<1) || decide (3<i)
end Lfc
namespace Go.Proofs.YthajalgkjonaaaaGreatDoor
open Go.RowKit
end Go.Proofs.YthajalgkjonaaaaGreatDoor
