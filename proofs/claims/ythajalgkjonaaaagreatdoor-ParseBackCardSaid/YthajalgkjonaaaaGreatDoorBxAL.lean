/- Parts of the proof that no input makes the law false: PaIt, PaWord, PaItB, PaRun, PaRun2, OrMem. -/
import Derived.Defers
import Derived.Recover
import Derived.Test.YthajalgkjonaaaaGreatDoorBxAK
set_option linter.unusedVariables false
set_option linter.unusedSimpArgs false
set_option maxRecDepth 100000
set_option maxHeartbeats 32000000
namespace Lfc
def digN(n:Int):List UInt8→Int
 |[]=>n
 |c :: r=>if c.toNat<48∨57<c.toNat then -1 else digN (10*n+((c.toNat:Int)-48)) r
def digitsP(s:List UInt8):Int:=if s=[]∨4<s.length∨((s.headD 0).toNat=48∧1<s.length) then -1 else digN 0 s
def PE.number(p:PE)(k:Nat)(least most:Int):PR Int:=if (p.pk k).kind≠1∨digitsP (p.pk k).text<least∨most<digitsP (p.pk k).text then p.unexp k else .ok (digitsP (p.pk k).text) (k+1)
def idxW(s:List UInt8):List (List UInt8)→Int
 |[]=>-1
 |a :: r=>if a=s then 0 else if idxW s r<0 then -1 else idxW s r+1
def PE.word(p:PE)(k:Nat)(ws:List (List UInt8)):PR Int:=if idxW (p.pk k).text ws<0∨(p.pk k).kind≠1 then p.unexp k else .ok (idxW (p.pk k).text ws) (k+1)
abbrev Bnd:=List UInt8 × Raw
structure Itm where
 kind:Int
 pos:Nat
 name:List UInt8
 type:List Raw
 value:List Raw
 op:Op
 som:List Bnd
 params:List Bnd
 blocks:List (List UInt8)
 fams:List (List UInt8)
 signs:List Int
 orders:List (List UInt8 × Ord)
 left:Ord
 right:Ord
 rel:Int
 count:Int
def Ord.nil:Ord:=.node 0 0 []
def Itm.new(a:Nat):Itm:=⟨0,a,[],[],[],⟨[],0,0⟩,[],[],[],[],[],[],Ord.nil,Ord.nil,0,0⟩
abbrev ItR:=PR (Itm × List Op)
def PE.declP(p:PE)(it:Itm)(k:Nat):ItR :=
 (p.name k).then fun n k1 =>
  if p.is k1 2 [58] then(p.expr (k1+1)).then fun t k2 =>
   if p.is k2 2 [61] then(p.punct k2 [61]).then fun _ k3=>(p.expr k3).then fun v k4=>(p.punct k4 [46]).then fun _ k5=>.ok ({ it with kind:=2,name:=n,type:=[t],value:=[v] },p.ops) k5
   else(p.punct k2 [46]).then fun _ k3=>.ok ({ it with kind:=1,name:=n,type:=[t] },p.ops) k3
  else(p.punct k1 [61]).then fun _ k3=>(p.expr k3).then fun v k4=>(p.punct k4 [46]).then fun _ k5=>.ok ({ it with kind:=2,name:=n,value:=[v] },p.ops) k5
def PE.opP(p:PE)(it:Itm)(fix:Int)(k:Nat):ItR :=
 (p.number k 0 99).then fun c k1=>(p.name k1).then fun n k2=>(p.punct k2 [46]).then fun _ k3 =>
  if (added p.ops ⟨n,fix,c⟩).2≠0 then .err (added p.ops ⟨n,fix,c⟩).2 (p.pk k1).pos else .ok ({ it with kind:=3,op:=⟨n,fix,c⟩ },(added p.ops ⟨n,fix,c⟩).1) k3
def fixes:List (List UInt8):=[[110,111,110,101],[108,101,102,116],[114,105,103,104,116]]
def PE.infixP(p:PE)(it:Itm)(k:Nat):ItR:=(p.word k fixes).then fun i k1=>p.opP it (3+i) k1
def PE.namedP(p:PE)(kind:Int)(it:Itm)(k:Nat):ItR:=(p.name k).then fun n k1=>(p.punct k1 [46]).then fun _ k2=>.ok ({ it with kind:=kind,name:=n },p.ops) k2
def PE.queryP(p:PE)(it:Itm)(k:Nat):ItR:=(p.number k 0 1000).then fun c k1=>(p.expr k1).then fun t k2=>(p.punct k2 [46]).then fun _ k3=>.ok ({ it with kind:=13,count:=c,type:=[t] },p.ops) k3
def bindersF(p:PE):Nat→Nat→List Bnd→PR (List Bnd)
 |0,_,_=>.out
 |f+1,k,acc=>(p.punct k [123]).then fun _ k1=>(p.name k1).then fun n k2=>(p.punct k2 [58]).then fun _ k3=>(p.expr k3).then fun t k4=>(p.punct k4 [125]).then fun _ k5 =>
  if p.is k5 2 [123] then bindersF p f k5 (acc++[(n,t)]) else .ok (acc++[(n,t)]) k5
def PE.binders(p:PE)(k:Nat):PR (List Bnd):=bindersF p (p.toks.length+1) k []
def PE.blockP(p:PE)(it:Itm)(k:Nat):ItR :=
 (p.name k).then fun n k1=>(p.punct k1 [58]).then fun _ k2 =>
  (if p.is k2 1 [115,111,109,101] then p.binders (k2+1) else .ok [] k2).then fun s k3=>(p.word k3 [[98,108,111,99,107]]).then fun _ k4=>(p.binders k4).then fun q k5=>(p.punct k5 [46]).then fun _ k6 =>
   .ok ({ it with kind:=4,name:=n,som:=s,params:=q },p.ops) k6
def barsF(p:PE):Nat→Nat→List (List UInt8)→PR (List (List UInt8))
 |0,_,_=>.out
 |f+1,k,acc=>if p.is k 1 [124] then(p.name (k+1)).then fun n k1=>barsF p f k1 (acc++[n]) else .ok acc k
def namesF(p:PE):Nat→Nat→List (List UInt8)→PR (List (List UInt8))
 |0,_,_=>.out
 |f+1,k,acc=>if p.isNm k then(p.name k).then fun n k1=>namesF p f k1 (acc++[n]) else .ok acc k
def PE.worldsP(p:PE)(it:Itm)(k:Nat):ItR :=
 (p.punct k [40]).then fun _ k1 =>
  (if p.isNm k1 then(p.name k1).then fun n k2=>barsF p (p.toks.length+1) k2 [n] else .ok [] k1).then fun bs k2=>(p.punct k2 [41]).then fun _ k3=>(p.name k3).then fun n k4 =>
   (namesF p (p.toks.length+1) k4 [n]).then fun fs k5=>(p.punct k5 [46]).then fun _ k6=>.ok ({ it with kind:=5,blocks:=bs,fams:=fs },p.ops) k6
def signs:List (List UInt8):=[[43],[45],[42]]
def signsF(p:PE):Nat→Nat→List Int→PR (List Int)
 |0,_,_=>.out
 |f+1,k,acc=>if p.is k 2 [46] then .ok acc (k+1) else(p.word k signs).then fun i k1=>signsF p f k1 (acc++[1+i])
def PE.modeP(p:PE)(it:Itm)(k:Nat):ItR:=(p.name k).then fun n k1=>(signsF p (p.toks.length+1) k1 []).then fun l k2=>.ok ({ it with kind:=6,name:=n,signs:=l },p.ops) k2
def partsF(p:PE)(g:Nat→PR Ord)(end_:List UInt8):Nat→Nat→List Ord→PR (List Ord)
 |0,_,_=>.out
 |f+1,k,acc=>if acc≠[]∧p.is k 2 end_ then .ok acc k else(g k).then fun x k1=>partsF p g end_ f k1 (acc++[x])
def PE.orderF(p:PE):Nat→Nat→Nat→PR Ord
 |0,_,_=>.out
 |f+1,o,k =>
  if p.is k 2 [91] then(if o+1=128 then .err 2 (p.pk k).pos else(partsF p (p.orderF f (o+1)) [93] (p.toks.length+1) (k+1) []).then fun l k1=>.ok (.node 3 0 l) (k1+1))
  else if p.is k 2 [123] then(if o+1=128 then .err 2 (p.pk k).pos else(partsF p (p.orderF f (o+1)) [125] (p.toks.length+1) (k+1) []).then fun l k1=>.ok (.node 2 0 l) (k1+1))
  else(p.number k 1 64).then fun n k1=>.ok (.node 1 n []) k1
def PE.order(p:PE)(k:Nat):PR Ord:=p.orderF 128 0 k
def ordersF(p:PE):Nat→Nat→List (List UInt8 × Ord)→PR (List (List UInt8 × Ord))
 |0,_,_=>.out
 |f+1,k,acc=>if acc=[]∨p.isNm k then(p.name k).then fun n k1=>(p.order k1).then fun o k2=>ordersF p f k2 (acc++[(n,o)]) else .ok acc k
def PE.ordersP(p:PE)(kind:Int)(it:Itm)(k:Nat):ItR:=(ordersF p (p.toks.length+1) k []).then fun l k1=>(p.punct k1 [46]).then fun _ k2=>.ok ({ it with kind:=kind,orders:=l },p.ops) k2
def rels:List (List UInt8):=[[60],[60,61]]
def PE.reducesP(p:PE)(it:Itm)(k:Nat):ItR :=
 (p.name k).then fun n k1=>(p.order k1).then fun a k2 =>
  (if p.is k2 2 [61] then(.ok 3 (k2+1):PR Int) else(p.word k2 rels).then fun i k3=>.ok (1+i) k3).then fun r k3=>(p.order k3).then fun b k4=>(p.punct k4 [46]).then fun _ k5 =>
   .ok ({ it with kind:=12,name:=n,left:=a,rel:=r,right:=b },p.ops) k5
def dirs:List (List UInt8):=[[105,110,102,105,120],[112,114,101,102,105,120],[112,111,115,116,102,105,120],[98,108,111,99,107],[119,111,114,108,100,115],[109,111,100,101],[99,111,118,101,114,115],[117,110,105,113,117,101],[115,116,114,105,99,116],[116,101,114,109,105,110,97,116,101,115],[116,111,116,97,108],[114,101,100,117,99,101,115],[113,117,101,114,121]]
def PE.dirP(p:PE):Int→Itm→Nat→ItR
 |0=>p.infixP
 |1=>fun it=>p.opP it 1
 |2=>fun it=>p.opP it 2
 |3=>p.blockP
 |4=>p.worldsP
 |5=>p.modeP
 |6=>p.namedP 7
 |7=>p.namedP 8
 |8=>p.namedP 9
 |9=>p.ordersP 10
 |10=>p.ordersP 11
 |11=>p.reducesP
 |_=>p.queryP
def PE.itemP(p:PE)(before:Nat)(k:Nat):ItR :=
 if before=512 then .err 7 (p.pk k).pos
 else if (p.pk k).kind=3 then(if idxW (p.pk k).text dirs<0 then .err 23 (p.pk k).pos else p.dirP (idxW (p.pk k).text dirs) (Itm.new (p.pk k).pos) (k+1))
 else if p.isNm k then p.declP (Itm.new (p.pk k).pos) k
 else p.unexp k
def itemsF(toks:List Tok)(fin:Nat):Nat→Nat→List Op→List Itm→PR (List Itm × List Op)
 |0,_,_,_=>.out
 |f+1,k,l,acc=>if k<toks.length then(PE.itemP ⟨toks,fin,l⟩ acc.length k).then fun x k1=>itemsF toks fin f k1 x.2 (acc++[x.1]) else .ok (acc,l) k
def itemsP(toks:List Tok)(fin:Nat)(l:List Op):PR (List Itm × List Op):=itemsF toks fin (toks.length+1) 0 l []
def extendP(l:List Op)(s:List UInt8):PR (List Itm × List Op):=if (lex s).2.1≠0 then .err (lex s).2.1 (lex s).2.2 else itemsP (lex s).1 s.length l
end Lfc
namespace Go.Proofs.YthajalgkjonaaaaGreatDoor
open Go.RowKit _root_.Lfc
theorem digits_any(s:List UInt8)(w:World)(hs:s.length<=65536):Calls Tryz.prog 196 #[S s] w fun e w'=>e=.returned (zI (digitsP s))/\w'=w:=by
 by_cases h0:s=[]
 ·subst h0;have hd:digitsP []=-1:=rfl;rw[hd];go_enter Tryz.func196,Tryz.ntmps196;go_wp2_with fail;go_ret;exact⟨rfl,rfl⟩
 obtain⟨c,r,rfl⟩:=List.exists_cons_of_ne_nil h0;have e0:((c :: r:List UInt8) == [])=false:=rfl;have hlen:(c :: r).length=r.length+1:=rfl;by_cases h4:4<(c :: r).length
 ·have hd:digitsP (c :: r)=-1:=if_pos (.inr (.inl h4));rw[hd];have h4i:(4:Int)<(r.length:Int)+1:=by omega
  clear h4 hlen hd;go_enter Tryz.func196,Tryz.ntmps196;go_wp2_with fail;go_ret;exact⟨rfl,rfl⟩
 have h4i:(r.length:Int)+1<=4:=by omega
 by_cases hc:c.toNat=48/\1<(c :: r).length
 ·have hd:digitsP (c :: r)=-1:=if_pos (.inr (.inr hc));rw[hd];have h5:(c.toNat:Int)=48:=by omega
  have h6:(1:Int)<(r.length:Int)+1:=by omega
  clear h4 hlen hd hc;go_enter Tryz.func196,Tryz.ntmps196;go_wp2_with fail;go_ret;exact⟨rfl,rfl⟩
 have hd:digitsP (c :: r)=digN 0 (c :: r):=if_neg (by rintro (h | h | h);exact h0 h;exact h4 h;exact hc h);rw[hd];have hcase:((c.toNat:Int)=48/\(r.length:Int)+1<=1)\/¬(c.toNat:Int)=48:=by
  by_cases e:c.toNat=48
  ·exact .inl ⟨by omega,by have:¬ 1<(c :: r).length:=fun h=>hc ⟨e,h⟩;omega⟩
  exact .inr (by omega)
 have H4:=zH h4;clear h4 hlen hd hc;rcases hcase with⟨h5,h6⟩ | h5;all_goals
  go_enter Tryz.func196,Tryz.ntmps196;go_upto_region 3 with fail;clear h5;try clear h6
  generalize hsc:c :: r=s at *;have HSC:=zH hsc;clear hsc;have h4:=H4.o;go_wp2_with fail;go_loopw [3,24] (fun n i wr=>∃k m:Nat,k<=s.length/\i=zI (k:Int)/\n=zI (m:Int)/\m<10 ^ k/\wr=w/\Hid (digN m (s.drop k)=digN 0 s)) (fun _ i _=>s.length-(intOf i).toNat);case atStart=>exact⟨0,0,by omega,rfl,rfl,by decide,rfl,zH rfl⟩
  obtain⟨k,m,hk,rfl,rfl,hm,rfl,hr⟩:=hrel;by_cases hlt:k<s.length
  ·have hdr:s.drop k=s[k] :: s.drop (k+1):=List.drop_eq_getElem_cons hlt;have hx:=hr.o;rw[hdr,digN] at hx;have hm2:m<10000:=Zl hm (Nat.pow_le_pow_right (n:=10) (by decide) (show k<=4 by omega));generalize hcc:s[k]=cc at *;have hi0:=zP k;have hi1:(k:Int)<(s.length:Int):=(by omega);by_cases hlo:cc.toNat<48
   ·rw[if_pos (.inl hlo)] at hx;have hlo':(cc.toNat:Int)<48:=(by omega);have HX:=zH hx;clear hx hdr hr;go_wp2_with fail;go_ret;exact⟨ret_int (by rw[HSC.o];exact HX.o),rfl⟩
   by_cases hhi:57<cc.toNat
   ·rw[if_pos (.inr hhi)] at hx;have hlo':¬(cc.toNat:Int)<48:=(by omega);have hhi':(57:Int)<(cc.toNat:Int):=(by omega);have HX:=zH hx;clear hx hdr hr;go_wp2_with fail;go_ret;exact⟨ret_int (by rw[HSC.o];exact HX.o),rfl⟩
   rw[if_neg (by rintro (h | h);exact hlo h;exact hhi h)] at hx;have hlo':¬(cc.toNat:Int)<48:=(by omega);have hhi':¬(57:Int)<(cc.toNat:Int):=(by omega);have HX:=zH hx;have HM:=zH hm;clear hx hdr hr hm;go_wp2_with fail;go_roundw;case rel =>
    refine⟨k+1,10*m+(cc.toNat-48),hlt,by go_num,by congr 1;omega,?_,trivial,zH ?_⟩
    ·have:=HM.o;rw[Nat.pow_succ];omega
    rw[<-HX.o]
    congr 1
    omega
   case measure=>simp[intOf];omega
  have hk2:k=s.length:=by omega
  have HX:=zH hr.o;go_wp2_with fail;go_ret;exact⟨ret_int (by rw[HSC.o,<-HX.o,hk2,List.drop_length];rfl),rfl⟩
theorem number_any{P k:Nat}{G:Hd}{p:Lfc.PE}(least most:Int)(w:World)(h:PW w P G p k)(hk:k<=p.toks.length)(ok:POk p):Calls Tryz.prog 180 #[.pointer (some ⟨P,0,none⟩),zI least,zI most] w (PRes P G p w (fun n v _=>v=zI n) (p.number k least most)):=by
 have hlen:=ok.len;have CP:Hid (∀W,PW W P G p k->Calls Tryz.prog 63 #[.pointer (some ⟨P,0,none⟩)] W fun e w'=>e=.returned (.agg #[zI (p.pk k).kind,S (p.pk k).text,zI ((p.pk k).pos:Int)])/\zb W w'):=zH fun W hW=>peek_any W hW hk ok;have CU:Hid (∀W,PW W P G p k->Calls Tryz.prog 36 #[.pointer (some ⟨P,0,none⟩)] W fun e w'=>e=Flt (p.ux k).1 (p.ux k).2/\zb W w'):=zH fun W hW=>unexpected_any W hW hk ok;have htl:(p.pk k).text.length<=65536:=by
  rcases Nat.lt_or_ge k p.toks.length with h1 | h1
  ·exact(ok.tok _ (List.mem_of_getElem? (PE.pk_of h1))).1
  obtain rfl:k=p.toks.length:=by omega
  rw[PE.pk_end];simp
 have CD:=zH (fun W=>digits_any (p.pk k).text W htl);have HW:=zH h;have hf0:=tok_f0;have hf1:=tok_f1;have hlt:(p.pk k).kind=1->k<p.toks.length:=fun e=>p.pk_lt (by omega);have HLT:=zH hlt;unfold Lfc.PE.number;rw[unexp_eq];generalize (p.pk k).kind=tk at *;generalize (p.pk k).text=tx at *;generalize (p.pk k).pos=tp at *;generalize digitsP tx=n at *;clear h ok htl hlt;have bad:(tk≠1\/n<least\/most<n)->Calls Tryz.prog 180 #[.pointer (some ⟨P,0,none⟩),zI least,zI most] w (PRes P G p w (fun n v _=>v=zI n) (if tk≠1\/n<least\/most<n then .err (p.ux k).1 (p.ux k).2 else .ok n (k+1))):=fun hb=>by
  rw[if_pos hb];have hc:(tk != 1)=true\/((tk != 1)=false/\n<least)\/((tk != 1)=false/\¬n<least/\most<n):=by
   by_cases h1:tk=1
   ·by_cases h2:n<least
    ·exact .inr (.inl ⟨by simp[h1],h2⟩)
    exact .inr (.inr ⟨by simp[h1],h2,by rcases hb with h | h | h;exact absurd h1 h;exact absurd h h2;exact h⟩)
   exact .inl (by simpa using h1)
  clear hb;rcases hc with h1 | ⟨h1,h2⟩ | ⟨h1,h2,h3⟩;all_goals
   go_enter Tryz.func180,Tryz.ntmps180;go_upto_region 2 with(first | (go_at_call 63;refine(CP.o _ HW.o).mono ?_;rintro e w1⟨rfl,b1⟩) | (go_at_call 196;refine(CD.o _).mono ?_;rintro e w2⟨rfl,hw2⟩;obtain rfl:=hw2));have HW1:=zH (HW.o.below b1);go_wp2_with (first | (go_at_call 63;refine(CP.o _ HW1.o).mono ?_;rintro e w3⟨rfl,b3⟩) | (go_at_call 36;refine(CU.o _ (HW1.o.below b3)).mono ?_;rintro e w4⟨rfl,b4⟩));exact⟨rfl,rfl,(zE b1).trans ((zE b3).trans (zE b4))⟩
 by_cases hb:tk≠1\/n<least\/most<n
 ·exact bad hb
 rw[if_neg hb];clear bad;obtain⟨h1,h2,h3⟩:tk=1/\¬n<least/\¬most<n:=⟨Decidable.byContradiction fun e=>hb (.inl e),fun e=>hb (.inr (.inl e)),fun e=>hb (.inr (.inr e))⟩;have h1':(tk != 1)=false:=by simp[h1]
 have hkl:=HLT.o h1;clear hb h1;go_enter Tryz.func180,Tryz.ntmps180;go_upto_region 2 with(first | (go_at_call 63;refine(CP.o _ HW.o).mono ?_;rintro e w1⟨rfl,b1⟩) | (go_at_call 196;refine(CD.o _).mono ?_;rintro e w2⟨rfl,hw2⟩;obtain rfl:=hw2));have HW1:=zH (HW.o.below b1);go_upto_region 4 with(go_at_call 63;refine(CP.o _ HW1.o).mono ?_;rintro e w3⟨rfl,b3⟩);have h3':=HW1.o.below b3;obtain⟨_,x1,_,_,xf,_,_,_⟩:=h3'.cells;have xf1:=xf 1;have h4:=h3'.step (k+1);rw[show((k+1:Nat):Int)=(k:Int)+1 by omega] at h4;have H4:=zH h4;clear xf h3' h4;go_wp2_with fail;exact bodyPost_ret (v:=zI n) (by simp[results,Tryz.results180,go_sem]) rfl ⟨⟨_,rfl,rfl⟩,H4.o,(zE b1).trans ((zE b3).trans (Oth.set _ _))⟩
theorem idxFrom_eq(s:List UInt8):∀(ws:List (List UInt8))(i:Nat),Lib.idxFromS (ws.map fun l=>⟨l.toArray⟩) ⟨s.toArray⟩ i=if idxW s ws<0 then -1 else idxW s ws+(i:Int)
 |[],i=>by simp[Lib.idxFromS,idxW]
 |a :: r,i=>by
  rw[List.map_cons,Lib.idxFromS,idxW];by_cases h:a=s
  ·subst h;rw[if_pos rfl,if_pos rfl,if_neg (by decide)];simp
  rw[if_neg (fun e=>h (by simpa using e)),if_neg h,idxFrom_eq s r (i+1)];split
  ·rfl
  rw[if_neg (by omega)]
  push_cast
  omega
theorem idxOf_eq(s:List UInt8)(ws:List (List UInt8)):Lib.idxOfS (ws.map fun l=>⟨l.toArray⟩) ⟨s.toArray⟩=idxW s ws:=by
 rw[Lib.idxOfS,idxFrom_eq];have:-1≤idxW s ws:=by
  induction ws with
  |nil=>simp[idxW]
  |cons a r ih =>
   rw[idxW];split
   ·omega
   split <;> omega
 split
 ·omega
 simp
theorem word_any{P k:Nat}{G:Hd}{p:Lfc.PE}(ws:List (List UInt8))(b o c:Nat)(w:World)(h:PW w P G p k)(hk:k<=p.toks.length)(ok:POk p)(hws:ws.length<=1000)(hb:b<w.heap.size)(hc:∀j(hj:j<ws.length),zc w b (o+j) (S ws[j])) :
  Calls Tryz.prog 174 #[.pointer (some ⟨P,0,none⟩),.slice (some ⟨b,o,none⟩) ws.length c] w (PRes P G p w (fun n v _=>v=zI n) (p.word k ws)):=by
 have hlen:=ok.len;have CP:Hid (∀W,PW W P G p k->Calls Tryz.prog 63 #[.pointer (some ⟨P,0,none⟩)] W fun e w'=>e=.returned (.agg #[zI (p.pk k).kind,S (p.pk k).text,zI ((p.pk k).pos:Int)])/\zb W w'):=zH fun W hW=>peek_any W hW hk ok;have CU:Hid (∀W,PW W P G p k->Calls Tryz.prog 36 #[.pointer (some ⟨P,0,none⟩)] W fun e w'=>e=Flt (p.ux k).1 (p.ux k).2/\zb W w'):=zH fun W hW=>unexpected_any W hW hk ok;have CI:Hid (∀W,zb w W->Calls Tryz.prog 187 #[.slice (some ⟨b,o,none⟩) ws.length c,S (p.pk k).text] W fun e w'=>e=.returned (zI (idxW (p.pk k).text ws))/\w'=W):=zH fun W hW=>by
  have:=Tryz.slices_Index_string b o ws.length c (ws.map fun l=>⟨l.toArray⟩) ⟨(p.pk k).text.toArray⟩ W (by simp) (by omega) (fun j hj=>by
   have hj':j<ws.length:=(by simpa using hj);rw[(hW.cell (p:=⟨b,o+j,none⟩) hb),hc j hj'];simp[List.getD_eq_getElem?_getD,hj'])
  rw[List.take_of_length_le (by simp),idxOf_eq] at this;exact this
 have HW:=zH h;have hf0:=tok_f0;have hf1:=tok_f1;have hlt:(p.pk k).kind=1->k<p.toks.length:=fun e=>p.pk_lt (by omega);have HLT:=zH hlt;unfold Lfc.PE.word;rw[unexp_eq];generalize (p.pk k).kind=tk at *;generalize (p.pk k).text=tx at *;generalize (p.pk k).pos=tp at *;generalize idxW tx ws=n at *;clear h ok hlt hc;by_cases hbad:n<0\/tk≠1
 ·rw[if_pos hbad];have hcs:n<0\/(¬n<0/\(tk != 1)=true):=by
   by_cases h1:n<0
   ·exact .inl h1
   exact .inr ⟨h1,by rcases hbad with h | h;exact absurd h h1;simpa using h⟩
  clear hbad;rcases hcs with h1 | ⟨h1,h2⟩
  ·go_enter Tryz.func174,Tryz.ntmps174;go_upto_region 2 with(first | (go_at_call 63;refine(CP.o _ HW.o).mono ?_;rintro e w1⟨rfl,b1⟩) | (go_at_call 187;refine(CI.o _ b1).mono ?_;rintro e w2⟨rfl,hw2⟩;obtain rfl:=hw2));have HW1:=zH (HW.o.below b1);go_wp2_with (go_at_call 36;refine(CU.o _ HW1.o).mono ?_;rintro e w4⟨rfl,b4⟩);exact⟨rfl,rfl,(zE b1).trans (zE b4)⟩
  go_enter Tryz.func174,Tryz.ntmps174;go_upto_region 2 with(first | (go_at_call 63;refine(CP.o _ HW.o).mono ?_;rintro e w1⟨rfl,b1⟩) | (go_at_call 187;refine(CI.o _ b1).mono ?_;rintro e w2⟨rfl,hw2⟩;obtain rfl:=hw2));have HW1:=zH (HW.o.below b1);go_wp2_with (first | (go_at_call 63;refine(CP.o _ HW1.o).mono ?_;rintro e w3⟨rfl,b3⟩) | (go_at_call 36;refine(CU.o _ (HW1.o.below b3)).mono ?_;rintro e w4⟨rfl,b4⟩));exact⟨rfl,rfl,(zE b1).trans ((zE b3).trans (zE b4))⟩
 rw[if_neg hbad];obtain⟨h1,h2⟩:¬n<0/\tk=1:=⟨fun e=>hbad (.inl e),Decidable.byContradiction fun e=>hbad (.inr e)⟩;have h2':(tk != 1)=false:=by simp[h2]
 have hkl:=HLT.o h2;clear hbad h2;go_enter Tryz.func174,Tryz.ntmps174;go_upto_region 2 with(first | (go_at_call 63;refine(CP.o _ HW.o).mono ?_;rintro e w1⟨rfl,b1⟩) | (go_at_call 187;refine(CI.o _ b1).mono ?_;rintro e w2⟨rfl,hw2⟩;obtain rfl:=hw2));have HW1:=zH (HW.o.below b1);go_upto_region 4 with(go_at_call 63;refine(CP.o _ HW1.o).mono ?_;rintro e w3⟨rfl,b3⟩);have h3':=HW1.o.below b3;obtain⟨_,x1,_,_,xf,_,_,_⟩:=h3'.cells;have xf1:=xf 1;have h4:=h3'.step (k+1);rw[show((k+1:Nat):Int)=(k:Int)+1 by omega] at h4;have H4:=zH h4;clear xf h3' h4;go_wp2_with fail;exact bodyPost_ret (v:=zI n) (by simp[results,Tryz.results174,go_sem]) rfl ⟨⟨_,rfl,rfl⟩,H4.o,(zE b1).trans ((zE b3).trans (Oth.set _ _))⟩
end Go.Proofs.YthajalgkjonaaaaGreatDoor
namespace Lfc
theorem PR.then_okE{α β:Type}(x:α)(k:Nat)(f:α→Nat→PR β):(PR.ok x k).then f=f x k:=rfl
theorem PR.then_errE{α β:Type}(c:Int)(a:Nat)(f:α→Nat→PR β):(PR.err c a:PR α).then f=.err c a:=rfl
theorem PR.cases{α:Type}{r:PR α}(h:r≠.out):(∃c a,r=.err c a)∨∃x k,r=.ok x k:=by
 cases r with
 |out=>exact absurd rfl h
 |err c a=>exact .inl ⟨c,a,rfl⟩
 |ok x k=>exact .inr ⟨x,k,rfl⟩
def Fair{α:Type}(s:Nat)(p:PE)(k:Nat)(r:PR α):Prop:=r≠.out∧NzE r∧∀x k',r=.ok x k'→k+s≤k'∧k'≤p.toks.length
theorem Fair.ok{α:Type}{p:PE}{k:Nat}(x:α)(hk:k≤p.toks.length):Fair 0 p k (.ok x k):=⟨by simp,NzE.ok _ _,fun y k' e=>by cases e;exact⟨Nat.le_refl _,hk⟩⟩
theorem Fair.okn{α:Type}{p:PE}{k k1 s:Nat}(x:α)(h:k+s≤k1)(hk:k1≤p.toks.length):Fair s p k (.ok x k1):=⟨by simp,NzE.ok _ _,fun y k' e=>by cases e;exact⟨h,hk⟩⟩
theorem Fair.err{α:Type}{p:PE}{k s:Nat}{c:Int}(a:Nat)(hc:c≠0):Fair s p k (.err c a:PR α):=⟨by simp,fun c' a' e=>by cases e;exact hc,fun y k' e=>by cases e⟩
theorem Fair.weak{α:Type}{p:PE}{k s s':Nat}{r:PR α}(h:Fair s p k r)(hs:s'≤s):Fair s' p k r:=⟨h.1,h.2.1,fun x k' e=>⟨by have:=(h.2.2 x k' e).1;omega,(h.2.2 x k' e).2⟩⟩
theorem Fair.then{α β:Type}{p:PE}{k s:Nat}{r:PR α}{f:α→Nat→PR β}(h:Fair s p k r)(hf:∀x k1,k+s≤k1→k1≤p.toks.length→Fair 0 p k1 (f x k1)):Fair s p k (r.then f):=by
 obtain⟨h1,h2,h3⟩:=h;cases r with
 |out=>exact absurd rfl h1
 |err c a=>exact⟨by simp[PR.then],fun c' a' e=>h2 c' a' (by simpa[PR.then] using e),fun x k' e=>by cases e⟩
 |ok x k1 =>
  obtain⟨h4,h5⟩:=h3 x k1 rfl;have:=hf x k1 h4 h5;exact⟨this.1,this.2.1,fun y k' e=>⟨by have:=(this.2.2 y k' e).1;omega,(this.2.2 y k' e).2⟩⟩
theorem Fair.unexp{α:Type}(p:PE)(k s:Nat):Fair s p k (p.unexp k:PR α):=⟨p.unexp_ne k,nz_unexp p k,fun x k' e=>(PE.unexp_ok e).elim⟩
theorem fair_punct(p:PE)(k:Nat)(s:List UInt8):Fair 1 p k (p.punct k s):=⟨punct_ne p k s,nz_punct p k s,fun x k' e=>by have:=PE.punct_ok e;omega⟩
theorem fair_name(p:PE)(k:Nat):Fair 1 p k (p.name k):=⟨name_neo p k,nz_name p k,fun x k' e=>by have:=PE.name_ok e;omega⟩
theorem fair_expr(p:PE)(k:Nat)(hk:k≤p.toks.length):Fair 1 p k (p.expr k):=⟨expr_ne p k,nz_expr p k,fun x k' e=>by have:=exprG_b (opdF_b p _) e;omega⟩
theorem fair_number(p:PE)(k:Nat)(a b:Int):Fair 1 p k (p.number k a b):=by
 unfold PE.number;split
 ·exact Fair.unexp p k 1
 rename_i h;have:=p.pk_lt (k:=k) (by intro e;exact h (.inl (by omega)));exact Fair.okn _ (Nat.le_refl _) this
theorem fair_word(p:PE)(k:Nat)(ws:List (List UInt8)):Fair 1 p k (p.word k ws):=by
 unfold PE.word;split
 ·exact Fair.unexp p k 1
 rename_i h;have:=p.pk_lt (k:=k) (by intro e;exact h (.inr (by omega)));exact Fair.okn _ (Nat.le_refl _) this
theorem is_ltk{p:PE}{k:Nat}{kd:Int}{s:List UInt8}(hkd:kd≠0)(h:p.is k kd s=true):k<p.toks.length:=by
 unfold PE.is at h;simp only[Bool.and_eq_true,decide_eq_true_eq] at h;exact p.pk_lt (by omega)
theorem fair_decl(p:PE)(it:Itm)(k:Nat):Fair 1 p k (p.declP it k):=by
 unfold PE.declP;refine(fair_name p k).then fun n k1 _ h1=>?_;split
 ·rename_i h;have hl:=PE.is_lt h;refine(Fair.then (k:=k1+1) (fair_expr p _ hl) fun t k2 _ h2=>?_) |> fun H=>(show Fair 0 p k1 _ from⟨H.1,H.2.1,fun x k' e=>⟨by have:=(H.2.2 x k' e).1;omega,(H.2.2 x k' e).2⟩⟩);split
  ·refine((fair_punct p k2 _).then fun _ k3 _ h3=>((fair_expr p k3 h3).then fun v k4 _ h4=>((fair_punct p k4 _).then fun _ k5 _ h5=>Fair.ok _ h5).weak (Nat.zero_le _)).weak (Nat.zero_le _)).weak (Nat.zero_le _)
  exact((fair_punct p k2 _).then fun _ k3 _ h3=>Fair.ok _ h3).weak (Nat.zero_le _)
 exact((fair_punct p k1 _).then fun _ k3 _ h3=>((fair_expr p k3 h3).then fun v k4 _ h4=>((fair_punct p k4 _).then fun _ k5 _ h5=>Fair.ok _ h5).weak (Nat.zero_le _)).weak (Nat.zero_le _)).weak (Nat.zero_le _)
theorem fair_op(p:PE)(it:Itm)(fix:Int)(k:Nat):Fair 1 p k (p.opP it fix k):=by
 unfold PE.opP;refine(fair_number p k _ _).then fun c k1 _ h1=>((fair_name p k1).then fun n k2 _ h2=>((fair_punct p k2 _).then fun _ k3 _ h3=>?_).weak (Nat.zero_le _)).weak (Nat.zero_le _);split
 ·rename_i h;exact Fair.err _ h
 exact Fair.ok _ h3
theorem fair_infix(p:PE)(it:Itm)(k:Nat):Fair 1 p k (p.infixP it k):=(fair_word p k _).then fun i k1 _ h1=>(fair_op p it _ k1).weak (Nat.zero_le _)
theorem fair_named(p:PE)(kd:Int)(it:Itm)(k:Nat):Fair 1 p k (p.namedP kd it k):=(fair_name p k).then fun n k1 _ h1=>((fair_punct p k1 _).then fun _ k2 _ h2=>Fair.ok _ h2).weak (Nat.zero_le _)
theorem fair_query(p:PE)(it:Itm)(k:Nat):Fair 1 p k (p.queryP it k):=(fair_number p k _ _).then fun c k1 _ h1=>((fair_expr p k1 h1).then fun t k2 _ h2=>((fair_punct p k2 _).then fun _ k3 _ h3=>Fair.ok _ h3).weak (Nat.zero_le _)).weak (Nat.zero_le _)
theorem fair_bindersF(p:PE):∀(f k:Nat)(acc:List Bnd),p.toks.length<f+k→k≤p.toks.length→Fair 1 p k (bindersF p f k acc)
 |0,k,acc,hf,hk=>by omega
 |f+1,k,acc,hf,hk=>by
  rw[bindersF];refine(fair_punct p k _).then fun _ k1 g1 h1=>((fair_name p k1).then fun n k2 g2 h2=>((fair_punct p k2 _).then fun _ k3 g3 h3=>((fair_expr p k3 h3).then fun t k4 g4 h4=>((fair_punct p k4 _).then fun _ k5 g5 h5=>?_).weak (Nat.zero_le _)).weak (Nat.zero_le _)).weak (Nat.zero_le _)).weak (Nat.zero_le _);split
  ·exact(fair_bindersF p f k5 _ (by omega) h5).weak (Nat.zero_le _)
  exact Fair.ok _ h5
theorem fair_binders(p:PE)(k:Nat)(hk:k≤p.toks.length):Fair 1 p k (p.binders k):=fair_bindersF p _ k [] (by omega) hk
theorem fair_block(p:PE)(it:Itm)(k:Nat):Fair 1 p k (p.blockP it k):=by
 unfold PE.blockP;refine(fair_name p k).then fun n k1 _ h1=>((fair_punct p k1 _).then fun _ k2 _ h2=>(Fair.then ?_ fun s k3 _ h3=>((fair_word p k3 _).then fun _ k4 _ h4=>((fair_binders p k4 h4).then fun q k5 _ h5=>((fair_punct p k5 _).then fun _ k6 _ h6=>Fair.ok _ h6).weak (Nat.zero_le _)).weak (Nat.zero_le _)).weak (Nat.zero_le _))).weak (Nat.zero_le _);split
 ·rename_i h;have H:=fair_binders p (k2+1) (is_ltk (by decide) h);exact⟨H.1,H.2.1,fun x k' e=>by have:=H.2.2 x k' e;omega⟩
 exact Fair.ok _ h2
theorem fair_barsF(p:PE):∀(f k:Nat)(acc:List (List UInt8)),p.toks.length<f+k→k≤p.toks.length→Fair 0 p k (barsF p f k acc)
 |0,k,acc,hf,hk=>by omega
 |f+1,k,acc,hf,hk=>by
  rw[barsF];split
  ·have H:=(fair_name p (k+1)).then fun n k1 g1 h1=>fair_barsF p f k1 (acc++[n]) (by omega) h1;exact⟨H.1,H.2.1,fun x k' e=>by have:=H.2.2 x k' e;omega⟩
  exact Fair.ok _ hk
theorem fair_namesF(p:PE):∀(f k:Nat)(acc:List (List UInt8)),p.toks.length<f+k→k≤p.toks.length→Fair 0 p k (namesF p f k acc)
 |0,k,acc,hf,hk=>by omega
 |f+1,k,acc,hf,hk=>by
  rw[namesF];split
  ·exact((fair_name p k).then fun n k1 g1 h1=>fair_namesF p f k1 (acc++[n]) (by omega) h1).weak (Nat.zero_le _)
  exact Fair.ok _ hk
theorem fair_worlds(p:PE)(it:Itm)(k:Nat):Fair 1 p k (p.worldsP it k):=by
 unfold PE.worldsP;refine(fair_punct p k _).then fun _ k1 _ h1=>(Fair.then ?_ fun bs k2 _ h2=>((fair_punct p k2 _).then fun _ k3 _ h3=>((fair_name p k3).then fun n k4 _ h4=>((fair_namesF p _ k4 _ (by omega) h4).then fun fs k5 _ h5=>((fair_punct p k5 _).then fun _ k6 _ h6=>Fair.ok _ h6).weak (Nat.zero_le _)).weak (Nat.zero_le _)).weak (Nat.zero_le _)).weak (Nat.zero_le _));split
 ·exact((fair_name p k1).then fun n k2 _ h2=>fair_barsF p _ k2 _ (by omega) h2).weak (Nat.zero_le _)
 exact Fair.ok _ h1
theorem fair_signsF(p:PE):∀(f k:Nat)(acc:List Int),p.toks.length<f+k→k≤p.toks.length→Fair 1 p k (signsF p f k acc)
 |0,k,acc,hf,hk=>by omega
 |f+1,k,acc,hf,hk=>by
  rw[signsF];split
  ·rename_i h;exact Fair.okn _ (Nat.le_refl _) (PE.is_lt h)
  exact(fair_word p k _).then fun i k1 g1 h1=>(fair_signsF p f k1 _ (by omega) h1).weak (Nat.zero_le _)
theorem fair_mode(p:PE)(it:Itm)(k:Nat):Fair 1 p k (p.modeP it k):=(fair_name p k).then fun n k1 _ h1=>((fair_signsF p _ k1 [] (by omega) h1).then fun l k2 _ h2=>Fair.ok _ h2).weak (Nat.zero_le _)
theorem fair_partsF(p:PE)(g:Nat→PR Ord)(hg:∀k,k≤p.toks.length→Fair 1 p k (g k))(e:List UInt8):∀(f k:Nat)(acc:List Ord),p.toks.length<f+k→k≤p.toks.length→Fair 0 p k (partsF p g e f k acc)∧∀l k',partsF p g e f k acc=.ok l k'→k'<p.toks.length
 |0,k,acc,hf,hk=>by omega
 |f+1,k,acc,hf,hk=>by
  rw[partsF];split
  ·rename_i h;have:=PE.is_lt h.2;exact⟨Fair.ok _ hk,fun l k' e=>by cases e;exact this⟩
  refine⟨((hg k hk).then fun x k1 g1 h1=>(fair_partsF p g hg e f k1 _ (by omega) h1).1).weak (Nat.zero_le _),fun l k' e'=>?_⟩;obtain⟨x,k1,e1,e2⟩:=PR.then_ok e';have:=(hg k hk).2.2 _ _ e1;exact(fair_partsF p g hg e f k1 _ (by omega) this.2).2 _ _ e2
theorem fair_orderF(p:PE):∀(f o k:Nat),128≤f+o→k≤p.toks.length→o<128→Fair 1 p k (p.orderF f o k)
 |0,o,k,hf,hk,ho=>by omega
 |f+1,o,k,hf,hk,ho=>by
  have br:∀(c:Int)(e:List UInt8),k<p.toks.length→Fair 1 p k (if o+1=128 then .err 2 (p.pk k).pos else(partsF p (p.orderF f (o+1)) e (p.toks.length+1) (k+1) []).then fun l k1=>(.ok (Ord.node c 0 l) (k1+1):PR Ord)):=by
   intro c e hl;split
   ·exact Fair.err _ (by decide)
   rename_i hne;obtain⟨h1,h2⟩:=fair_partsF p (p.orderF f (o+1)) (fun k hk=>fair_orderF p f (o+1) k (by omega) hk (by omega)) e (p.toks.length+1) (k+1) [] (by omega) hl;cases hr:partsF p (p.orderF f (o+1)) e (p.toks.length+1) (k+1) [] with
   |out=>exact absurd hr h1.1
   |err c' a=>rw[hr] at h1;exact Fair.err _ (h1.2.1 _ _ rfl)
   |ok l k1 =>
    have h3:=h2 _ _ hr;have h4:=h1.2.2 _ _ hr;exact Fair.okn _ (by omega) h3
  rw[PE.orderF];split
  ·rename_i h;exact br 3 _ (PE.is_lt h)
  split
  ·rename_i h;exact br 2 _ (PE.is_lt h)
  exact(fair_number p k _ _).then fun n k1 _ h1=>Fair.ok _ h1
theorem fair_order(p:PE)(k:Nat)(hk:k≤p.toks.length):Fair 1 p k (p.order k):=fair_orderF p 128 0 k (by decide) hk (by decide)
theorem fair_ordersF(p:PE):∀(f k:Nat)(acc:List (List UInt8 × Ord)),p.toks.length<f+k→k≤p.toks.length→Fair 0 p k (ordersF p f k acc)
 |0,k,acc,hf,hk=>by omega
 |f+1,k,acc,hf,hk=>by
  rw[ordersF];split
  ·exact((fair_name p k).then fun n k1 g1 h1=>((fair_order p k1 h1).then fun o k2 g2 h2=>fair_ordersF p f k2 _ (by omega) h2).weak (Nat.zero_le _)).weak (Nat.zero_le _)
  exact Fair.ok _ hk
theorem fair_orders(p:PE)(kd:Int)(it:Itm)(k:Nat)(hk:k≤p.toks.length):Fair 1 p k (p.ordersP kd it k):=by
 have h:=fair_ordersF p (p.toks.length+1) k [] (by omega) hk;unfold PE.ordersP;rw[ordersF,if_pos (.inl rfl)];refine Fair.then ((fair_name p k).then fun n k1 g1 h1=>((fair_order p k1 h1).then fun o k2 g2 h2=>fair_ordersF p _ k2 _ (by omega) h2).weak (Nat.zero_le _)) fun l k1 _ h1=>((fair_punct p k1 _).then fun _ k2 _ h2=>Fair.ok _ h2).weak (Nat.zero_le _)
theorem fair_reduces(p:PE)(it:Itm)(k:Nat):Fair 1 p k (p.reducesP it k):=by
 unfold PE.reducesP;refine(fair_name p k).then fun n k1 _ h1=>((fair_order p k1 h1).then fun a k2 _ h2=>(Fair.then ?_ fun r k3 _ h3=>((fair_order p k3 h3).then fun b k4 _ h4=>((fair_punct p k4 _).then fun _ k5 _ h5=>Fair.ok _ h5).weak (Nat.zero_le _)).weak (Nat.zero_le _))).weak (Nat.zero_le _);split
 ·rename_i h;exact Fair.okn _ (by omega) (PE.is_lt h)
 exact((fair_word p k2 _).then fun i k3 _ h3=>Fair.ok _ h3).weak (Nat.zero_le _)
theorem fair_dir(p:PE)(i:Int)(it:Itm)(k:Nat)(hk:k≤p.toks.length):Fair 1 p k (p.dirP i it k):=by
 unfold PE.dirP;split <;> first | exact fair_infix p it k | exact fair_op p it _ k | exact fair_block p it k | exact fair_worlds p it k | exact fair_mode p it k | exact fair_named p _ it k | exact fair_orders p _ it k hk | exact fair_reduces p it k | exact fair_query p it k
theorem fair_item(p:PE)(n k:Nat):Fair 1 p k (p.itemP n k):=by
 unfold PE.itemP;split
 ·exact Fair.err _ (by decide)
 split
 ·rename_i h;have hl:=p.pk_lt (k:=k) (by omega);split
  ·exact Fair.err _ (by decide)
  have H:=fair_dir p (idxW (p.pk k).text dirs) (Itm.new (p.pk k).pos) (k+1) hl;exact⟨H.1,H.2.1,fun x k' e=>by have:=H.2.2 x k' e;omega⟩
 split
 ·exact fair_decl p _ k
 exact Fair.unexp p k 1
theorem fair_itemsF(toks:List Tok)(n:Nat):∀(f k:Nat)(l:List Op)(acc:List Itm),toks.length<f+k→k≤toks.length→itemsF toks n f k l acc≠.out∧NzE (itemsF toks n f k l acc)∧∀x k',itemsF toks n f k l acc=.ok x k'→k'=toks.length
 |0,k,l,acc,hf,hk=>by omega
 |f+1,k,l,acc,hf,hk=>by
  rw[itemsF];split
  ·rename_i hlt;have h:=fair_item ⟨toks,n,l⟩ acc.length k;cases hr:PE.itemP ⟨toks,n,l⟩ acc.length k with
   |out=>exact absurd hr h.1
   |err c a =>
    rw[hr] at h;exact⟨by simp[PR.then],fun c' a' e=>h.2.1 c' a' (by simpa[PR.then] using e),fun x k' e=>by cases e⟩
   |ok x k1 =>
    have h1:=h.2.2 _ _ hr;exact fair_itemsF toks n f k1 x.2 (acc++[x.1]) (by have:=h1.1;omega) h1.2
  rename_i hlt;exact⟨by simp,NzE.ok _ _,fun x k' e=>by cases e;omega⟩
theorem fair_items(toks:List Tok)(n:Nat)(l:List Op):itemsP toks n l≠.out∧NzE (itemsP toks n l):=by
 have:=fair_itemsF toks n (toks.length+1) 0 l [] (by omega) (by omega);exact⟨this.1,this.2.1⟩
def OpsB(m:Nat)(r:ItR):Prop:=∀x k,r=.ok x k→x.2.length≤m
theorem OpsB.then{α:Type}{m:Nat}{r:PR α}{f:α→Nat→ItR}(h:∀x k,OpsB m (f x k)):OpsB m (r.then f):=fun x k e=>by
 obtain⟨y,k1,_,e2⟩:=PR.then_ok e;exact h y k1 x k e2
theorem OpsB.ok{m:Nat}{x:Itm × List Op}{k:Nat}(h:x.2.length≤m):OpsB m (.ok x k):=fun y k' e=>by cases e;exact h
theorem OpsB.err{m:Nat}(c:Int)(a:Nat):OpsB m (.err c a):=fun y k' e=>by cases e
theorem OpsB.unexp{m:Nat}(p:PE)(k:Nat):OpsB m (p.unexp k):=fun y k' e=>(PE.unexp_ok e).elim
theorem added_len(l:List Op)(o:Op):(added l o).1.length≤l.length+1:=by
 unfold added;split
 ·simp
 split
 ·simp
 split <;> simp
theorem opsB_op(p:PE)(it:Itm)(fix:Int)(k:Nat):OpsB (p.ops.length+1) (p.opP it fix k):=by
 unfold PE.opP;refine OpsB.then fun _ _=>OpsB.then fun _ _=>OpsB.then fun _ _=>?_;split
 ·exact OpsB.err _ _
 exact OpsB.ok (added_len _ _)
theorem opsB_decl(p:PE)(it:Itm)(k:Nat):OpsB (p.ops.length+1) (p.declP it k):=by
 unfold PE.declP;have h:p.ops.length≤p.ops.length+1:=Nat.le_succ _;refine OpsB.then fun _ _=>?_;split
 ·refine OpsB.then fun _ _=>?_;split
  ·exact OpsB.then fun _ _=>OpsB.then fun _ _=>OpsB.then fun _ _=>OpsB.ok h
  exact OpsB.then fun _ _=>OpsB.ok h
 exact OpsB.then fun _ _=>OpsB.then fun _ _=>OpsB.then fun _ _=>OpsB.ok h
theorem opsB_dir(p:PE)(i:Int)(it:Itm)(k:Nat):OpsB (p.ops.length+1) (p.dirP i it k):=by
 have h:p.ops.length≤p.ops.length+1:=Nat.le_succ _;unfold PE.dirP;split
 ·exact OpsB.then fun _ _=>opsB_op p _ _ _
 ·exact opsB_op p _ _ _
 ·exact opsB_op p _ _ _
 ·exact OpsB.then fun _ _=>OpsB.then fun _ _=>OpsB.then fun _ _=>OpsB.then fun _ _=>OpsB.then fun _ _=>OpsB.then fun _ _=>OpsB.ok h
 ·exact OpsB.then fun _ _=>OpsB.then fun _ _=>OpsB.then fun _ _=>OpsB.then fun _ _=>OpsB.then fun _ _=>OpsB.then fun _ _=>OpsB.ok h
 ·exact OpsB.then fun _ _=>OpsB.then fun _ _=>OpsB.ok h
 ·exact OpsB.then fun _ _=>OpsB.then fun _ _=>OpsB.ok h
 ·exact OpsB.then fun _ _=>OpsB.then fun _ _=>OpsB.ok h
 ·exact OpsB.then fun _ _=>OpsB.then fun _ _=>OpsB.ok h
 ·exact OpsB.then fun _ _=>OpsB.then fun _ _=>OpsB.ok h
 ·exact OpsB.then fun _ _=>OpsB.then fun _ _=>OpsB.ok h
 ·exact OpsB.then fun _ _=>OpsB.then fun _ _=>OpsB.then fun _ _=>OpsB.then fun _ _=>OpsB.then fun _ _=>OpsB.ok h
 exact OpsB.then fun _ _=>OpsB.then fun _ _=>OpsB.then fun _ _=>OpsB.ok h
theorem opsB_item(p:PE)(n k:Nat):OpsB (p.ops.length+1) (p.itemP n k):=by
 have h:p.ops.length≤p.ops.length+1:=Nat.le_succ _;unfold PE.itemP;split
 ·exact OpsB.err _ _
 split
 ·split
  ·exact OpsB.err _ _
  exact opsB_dir p _ _ _
 split
 ·exact opsB_decl p _ k
 exact OpsB.unexp p k
theorem item_lt{p:PE}{n k k':Nat}{x:Itm × List Op}(h:p.itemP n k=.ok x k'):n≠512:=by
 intro e;unfold PE.itemP at h;rw[if_pos e] at h;cases h
end Lfc
namespace Go.Proofs.YthajalgkjonaaaaGreatDoor
section
open Go.RowKit
structure Oth3(a b c:Nat)(w w':World):Prop where
 os:w'.os=w.os
 tape:w'.tape=w.tape
 output:w'.output=w.output
 size:w.heap.size≤w'.heap.size
 block:∀k,k<w.heap.size→k≠a→k≠b→k≠c→w'.heap[k]?=w.heap[k]?
theorem one_set{w:World}{g:Nat}{v u:Value}{t:TypeId}(h:w.heap[g]?=some (.cells #[v] t (0,0))):(w.setCell ⟨g,0,none⟩ u).heap[g]?=some (.cells #[u] t (0,0)):=by
 simp[World.setCell,zM,h]
theorem put111{W:World}{a b c:Nat}{v0 v1 v2:Value}{t0 t1 t2:TypeId}(h0:W.heap[a]?=some (.cells #[v0] t0 (0,0)))(h1:W.heap[b]?=some (.cells #[v1] t1 (0,0)))(h2:W.heap[c]?=some (.cells #[v2] t2 (0,0)))(hab:a≠b)(hac:a≠c)(hbc:b≠c)(u0 u1 u2:Value) :
  ∃s1 s2 s3,W.setCell ⟨a,0,none⟩ u0=s1∧s1.setCell ⟨b,0,none⟩ u1=s2∧s2.setCell ⟨c,0,none⟩ u2=s3∧(W.cell? ⟨a,0,none⟩=some v0∧s1.cell? ⟨b,0,none⟩=some v1∧s2.cell? ⟨c,0,none⟩=some v2)∧(W.frozen? ⟨a,0,none⟩=false∧s1.frozen? ⟨b,0,none⟩=false∧s2.frozen? ⟨c,0,none⟩=false) ∧
   Hid (s3.heap[a]?=some (.cells #[u0] t0 (0,0))∧s3.heap[b]?=some (.cells #[u1] t1 (0,0))∧s3.heap[c]?=some (.cells #[u2] t2 (0,0))∧Oth3 a b c W s3):=by
 obtain⟨s1,e1⟩:∃s1,W.setCell ⟨a,0,none⟩ u0=s1:=⟨_,rfl⟩;obtain⟨s2,e2⟩:∃s2,s1.setCell ⟨b,0,none⟩ u1=s2:=⟨_,rfl⟩;obtain⟨s3,e3⟩:∃s3,s2.setCell ⟨c,0,none⟩ u2=s3:=⟨_,rfl⟩;have o1:Oth a W s1:=zV e1;have o2:Oth b s1 s2:=zV e2;have o3:Oth c s2 s3:=zV e3;have a1:s1.heap[a]?=some (.cells #[u0] t0 (0,0)):=by rw[←e1];exact one_set h0
 have b1:=o1.heap h1 (fun e=>hab e.symm);have c1:=o1.heap h2 (fun e=>hac e.symm);have a2:=o2.heap a1 hab;have b2:s2.heap[b]?=some (.cells #[u1] t1 (0,0)):=by rw[←e2];exact one_set b1
 have c2:=o2.heap c1 (fun e=>hbc e.symm);have a3:=o3.heap a2 hac;have b3:=o3.heap b2 hbc;have c3:s3.heap[c]?=some (.cells #[u2] t2 (0,0)):=by rw[←e3];exact one_set c2
 refine⟨s1,s2,s3,e1,e2,e3,⟨zC h0 0,zC b1 0,zC c2 0⟩,⟨zF h0 0,zF b1 0,zF c2 0⟩,zH ⟨a3,b3,c3,o3.os.trans (o2.os.trans o1.os),o3.tape.trans (o2.tape.trans o1.tape),o3.output.trans (o2.output.trans o1.output),zR o1.size (zR o2.size o3.size),fun k hk ha hb hc=>?_⟩⟩;have z1:=o1.size;have z2:=o2.size;rw[o3.block k (by omega) (fun e=>hc (zO e)),o2.block k (by omega) (fun e=>hb (zO e)),o1.block k hk (fun e=>ha (zO e))]
theorem fault_is(a b:Value)(w:World):(Instr.typeAssert (.iface 125 (.agg #[a,b])) 20 125 true).run Tryz.prog w=.ok (.tuple #[.agg #[a,b],.bool true]) w:=by kernel_rfl
theorem catch_idle(a b c:Value)(w:World) :
  CallsD Tryz.prog 62 #[a,b,c] .returning w fun e u' w'=>e=.returned (.tuple #[])∧u'=.returning∧w'=w:=by
 refine callsD_of_wpS Tryz.func62 rfl fun c₀ cs hu=>?_;apply wpS_seq;apply wpS_region;simp[wpOpsS,go_sem,recoverD,hu,Tryz.ntmps62,Exit.thenS];refine wpS_of_wp ?_;change Code.wp _ _ _ { tmps:=#[a,b,c,undef,undef,undef,.nilIface,undef,undef,undef,undef,undef,undef,undef,undef,undef],defers:=[] } w;go_wp2_with fail;cases c₀
 simp_all [bodyPostS,results,Tryz.results62]
theorem catch_fault(R0 R1 R2:Nat)(cc:Int)(aa:Nat)(v1 v2 v3:Value)(w:World)(h0:w.heap[R0]?=some (.cells #[v1] 26 (0,0)))(h1:w.heap[R1]?=some (.cells #[v2] 27 (0,0)))(h2:w.heap[R2]?=some (.cells #[v3] 3 (0,0)))(h01:R0≠R1)(h02:R0≠R2)(h12:R1≠R2) :
  CallsD Tryz.prog 62 #[.pointer (some ⟨R0,0,none⟩),.pointer (some ⟨R1,0,none⟩),.pointer (some ⟨R2,0,none⟩)] (.panicking [{ v:=.iface 125 (.agg #[.int .i64 cc,.int .i64 (aa:Int)]),recovered:=false }]) w fun e u' w' =>
   e=.returned (.tuple #[])∧u'=.panicking [{ v:=.iface 125 (.agg #[.int .i64 cc,.int .i64 (aa:Int)]),recovered:=true }] ∧
   w'.heap[R0]?=some (.cells #[.slice none 0 0] 26 (0,0))∧w'.heap[R1]?=some (.cells #[.int .i64 cc] 27 (0,0))∧w'.heap[R2]?=some (.cells #[.int .i64 (aa:Int)] 3 (0,0))∧Oth3 R0 R1 R2 w w':=by
 have l0:=zL h0;have l1:=zL h1;have l2:=zL h2;obtain⟨wa,hwa⟩:∃wa,w.alloc (.cells #[.int .i64 cc,.int .i64 (aa:Int)] 125)=wa:=⟨_,rfl⟩;have ba:=zG hwa;have qa:=zQ hwa;obtain⟨s1,s2,s3,e1,e2,e3,⟨y0,y1,y2⟩,⟨f0,f1,f2⟩,HQ⟩:=put111 (W:=wa.drew) ((ba.block _ l0).trans h0) ((ba.block _ l1).trans h1) ((ba.block _ l2).trans h2) h01 h02 h12 (.slice none 0 0) (.int .i64 cc) (.int .i64 (aa:Int));have x0:wa.cell? ⟨w.heap.size,0,none⟩=some (.int .i64 cc):=zC qa 0;have x1:wa.cell? ⟨w.heap.size,1,none⟩=some (.int .i64 (aa:Int)):=zC qa 1;have hla:=zL qa;have o1:Oth R0 wa.drew s1:=by rw[←e1];exact Oth.set _ _
 have o2:Oth R1 s1 s2:=by rw[←e2];exact Oth.set _ _
 have hs1:wa.heap.size≤s1.heap.size:=o1.size;have x10:=(o1.cell (p:=⟨w.heap.size,0,none⟩) hla (by simp only;omega)).trans x0;have x11:=(o1.cell (p:=⟨w.heap.size,1,none⟩) hla (by simp only;omega)).trans x1;have x20:=(o2.cell (p:=⟨w.heap.size,0,none⟩) (by simp only;omega) (by simp only;omega)).trans x10;have x21:=(o2.cell (p:=⟨w.heap.size,1,none⟩) (by simp only;omega) (by simp only;omega)).trans x11;have BA:=zH ba;have hta:=fault_is;clear o1 o2;clear ba qa h0 h1 h2;refine callsD_of_wpS Tryz.func62 rfl fun c₀ cs hu=>?_;apply wpS_seq;apply wpS_region;simp[wpOpsS,go_sem,recoverD,hu,Tryz.ntmps62,Exit.thenS];refine wpS_of_wp ?_;change Code.wp _ _ _ { tmps:=#[.pointer (some ⟨R0,0,none⟩),.pointer (some ⟨R1,0,none⟩),.pointer (some ⟨R2,0,none⟩),undef,undef,undef,.iface 125 (.agg #[.int .i64 cc,.int .i64 (aa:Int)]),undef,undef,undef,undef,undef,undef,undef,undef,undef],defers:=[] } w;go_wp2_with fail;go_region;go_wp2_with fail;obtain⟨q0,q1,q2,o⟩:=HQ.out;have ho:Oth3 R0 R1 R2 w s3:=⟨o.os.trans BA.out.os,o.tape.trans BA.out.tape,o.output.trans BA.out.output,zR BA.out.size o.size,fun k hk h0 h1 h2=>(o.block k (by show k<wa.heap.size;have:=BA.out.size;omega) h0 h1 h2).trans (BA.out.block k hk)⟩;simp[bodyPostS,results,Tryz.results62,q0,q1,q2,ho]
end
section
open Go.RowKit _root_.Lfc
def Hd.from(G:Hd)(lo:Nat):Prop:=(∀a,G.A=some a→lo≤a.block)∧∀a,G.B=some a→lo≤a.block
structure Oth2(a b:Nat)(w w':World):Prop where
 os:w'.os=w.os
 tape:w'.tape=w.tape
 output:w'.output=w.output
 size:w.heap.size≤w'.heap.size
 block:∀k,k<w.heap.size→k≠a→k≠b→w'.heap[k]?=w.heap[k]?
theorem one_noStr{w:World}{g:Nat}{v:Value}{t:TypeId}(h:w.heap[g]?=some (.cells #[v] t (0,0)))(hv:∀s,v≠S s)(j:Nat)(s:List UInt8):w.cell? ⟨g,j,none⟩≠some (S s):=by
 rw[zC h j]
 match j with
 |0=>intro e;exact hv s (by simpa using e)
 |j+1=>simp
theorem OpsAt.oth3{w w':World}{a b c:Nat}{A:Option Addr}{l:List Lfc.Op}(h:OpsAt w A l)(ha:∀j s,w.cell? ⟨a,j,none⟩≠some (S s))(hb:∀j s,w.cell? ⟨b,j,none⟩≠some (S s))(hc:∀j s,w.cell? ⟨c,j,none⟩≠some (S s))(ho:Oth3 a b c w w'):OpsAt w' A l:=⟨h.1,fun hne=>by
 obtain⟨g,o,hA,hlt,hcl⟩:=h.2 hne;obtain⟨c0,_⟩:=hcl 0 (List.length_pos_iff.2 hne);have k:=fun j=>World.cell?_of_block (a:=⟨g,j,none⟩) (ho.block g hlt (fun e=>ha _ _ (e ▸ c0)) (fun e=>hb _ _ (e ▸ c0)) (fun e=>hc _ _ (e ▸ c0)));refine⟨g,o,hA,Zl hlt ho.size,fun i hi=>?_⟩;obtain⟨c0,c1,c2⟩:=hcl i hi;exact⟨(k _).trans c0,(k _).trans c1,(k _).trans c2⟩⟩
theorem PW.to2{w w':World}{P X lo k:Nat}{G:Hd}{p:Lfc.PE}(h:PW w P G p k)(hG:G.from lo)(hX:X<lo){k':Nat}(ho:Oth2 P X w w')(hc:w'.heap[P]?=some (.cells #[.slice G.A p.toks.length G.c,.int .i64 (k':Int),.int .i64 (p.fin:Int),.slice G.B p.ops.length G.d] 96 (0,0))):PW w' P G p k':=by
 have hn:=h.noStr;obtain⟨_,⟨A,c,e,h1,h2⟩,hp,h3⟩:=h;obtain⟨A',c',B',d'⟩:=G;simp only at e h2 h3;cases e;refine⟨hc,⟨_,_,rfl,h1,fun hp=>?_⟩,hp,fun hne=>?_⟩
 ·obtain⟨b,o,hA,hlt,hcl⟩:=h2 hp;have hbX:b≠X:=fun e=>by have:=hG.1 _ hA;simp only at this;omega
  have hbP:b≠P:=fun e=>by
   obtain⟨_,c1,_⟩:=hcl 0 _ (Zg hp);rw[e] at c1;exact hn _ _ c1
  have q:=fun j=>World.cell?_of_block (a:=⟨b,j,none⟩) (ho.block b hlt hbP hbX);refine⟨b,o,hA,Zl hlt ho.size,fun i t ht=>?_⟩;obtain⟨c0,c1,c2⟩:=hcl i t ht;exact⟨(q _).trans c0,(q _).trans c1,(q _).trans c2⟩
 obtain⟨b,o,hA,hlt,hcl⟩:=h3 hne;have hbX:b≠X:=fun e=>by have:=hG.2 _ hA;simp only at this;omega
 have hbP:b≠P:=fun e=>by
  obtain⟨c0,_⟩:=hcl 0 (List.length_pos_iff.2 hne);rw[e] at c0;exact hn _ _ c0
 have q:=fun j=>World.cell?_of_block (a:=⟨b,j,none⟩) (ho.block b hlt hbP hbX);refine⟨b,o,hA,Zl hlt ho.size,fun i hi=>?_⟩;obtain⟨c0,c1,c2⟩:=hcl i hi;exact⟨(q _).trans c0,(q _).trans c1,(q _).trans c2⟩
def RdR(P X:Nat)(p:Lfc.PE)(W:World)(U:World→Prop)(V:List Lfc.Op→World→Prop):Lfc.PR (List Lfc.Op)→Ending→World→Prop
 |.out,_,_=>True
 |.err c a,e,w'=>e=Flt c a∧Oth2 P X W w'∧U w'
 |.ok l k,e,w'=>e=.returned (.tuple #[])∧(∃G,PW w' P G ⟨p.toks,p.fin,l⟩ k)∧Oth2 P X W w'∧V l w'
def RunR(X:Nat)(n:Nat)(w:World)(U:World→Prop)(V:List Lfc.Op→World→Prop):Lfc.PR (List Lfc.Op)→Ending→World→Prop
 |.out,_,_=>True
 |.err c a,e,w'=>e=.returned (.tuple #[.slice none 0 0,.int .i64 c,.int .i64 (a:Int)])∧Oth X w w'∧U w'
 |.ok l _,e,w'=>(∃A d,e=.returned (.tuple #[.slice A l.length d,.int .i64 0,.int .i64 (n:Int)])∧OpsAt w' A l)∧Oth X w w'∧V l w'
def _root_.Lfc.runP(s:List UInt8)(r:List Lfc.Tok→Lfc.PR (List Lfc.Op)):Lfc.PR (List Lfc.Op):=if (lex s).2.1≠0 then .err (lex s).2.1 (lex s).2.2 else r (lex s).1
theorem prun_any(rd:FuncId)(he:∀args w,(callFunc rd args).run Tryz.prog w=.ok (.enter rd args) w)(X:Nat)(l:List Lfc.Op)(A:Option Addr)(c:Nat)(s:List UInt8)(r:List Lfc.Tok->Lfc.PR (List Lfc.Op))(U:World->Prop)(V:List Lfc.Op->World->Prop)(w:World)
  (hl:l.length<=1000000) (ha:OpsAt w A l) (hs:s.length<=9223372036854775807) (hX:X<w.heap.size) (hr:(lex s).2.1=0->r (lex s).1≠.out)
  (hV:∀l W W',V l W->Oth3 w.heap.size (w.heap.size+1) (w.heap.size+2) W W'->V l W')
  (hU0:∀W,zb w W->U W) (hU:∀W W',U W->Oth3 w.heap.size (w.heap.size+1) (w.heap.size+2) W W'->U W')
  (hrd:∀(P:Nat)(G:Hd)(W:World),(lex s).2.1=0->zb w W->w.heap.size+3<=P->PW W P G ⟨(lex s).1,s.length,l⟩ 0->POk ⟨(lex s).1,s.length,l⟩->G.from (w.heap.size+3) ->
   Calls Tryz.prog rd #[.pointer (some ⟨P,0,none⟩),.pointer (some ⟨X,0,none⟩)] W (RdR P X ⟨(lex s).1,s.length,l⟩ W U V (r (lex s).1))) :
  Calls Tryz.prog 33 #[.slice A l.length c,S s,.func (.func rd) #[] #[.pointer (some ⟨X,0,none⟩)]] w (RunR X s.length w U V (Lfc.runP s r)):=by
 have hmf:∀(fn:Fn)(first cap:Array Value)(w:World),(Instr.makeFunc fn first cap).run Tryz.prog w=.ok (.func fn first cap) w:=fun _ _ _ _=>rfl;obtain⟨wa,hwa⟩:∃wa,((w.alloc (.cells #[zS] 26)).alloc (.cells #[zI 0] 27)).alloc (.cells #[zI 0] 3)=wa:=⟨_,rfl⟩;have ba:zb w wa:=by rw[<-hwa];exact(((zB _ _).alloc (zN _) _).alloc (by simp) _).alloc (by simp;omega) _
 have q0:zk wa w.heap.size #[zS] 26:=by rw[<-hwa];exact heap_alloc_old _ _ _ _ (heap_alloc_old _ _ _ _ (zW _ _))
 have q1:wa.heap[w.heap.size+1]?=some (.cells #[zI 0] 27 (0,0)):=by
  rw[<-hwa];have:=zW (w.alloc (.cells #[zS] 26)) (.cells #[zI 0] 27);exact heap_alloc_old _ _ _ _ (by simpa using this)
 have q2:wa.heap[w.heap.size+2]?=some (.cells #[zI 0] 3 (0,0)):=by
  rw[<-hwa];have:=zW ((w.alloc (.cells #[zS] 26)).alloc (.cells #[zI 0] 27)) (.cells #[zI 0] 3);simpa using this
 have hsa:=eq2 (show wa.heap.size=w.heap.size+3 by rw[<-hwa];simp);have CLX:=zH (lex_any s wa hs);have HRD:=zH hrd;have HV:=zH hV;have HU0:=zH hU0;have HU:=zH hU;have HR:=zH hr;have HA:=zH ha;have BA:=zH ba;have Q0:=zH q0;have Q1:=zH q1;have Q2:=zH q2;obtain⟨⟨toks,le,lat⟩,hL⟩:∃L,lex s=L:=⟨_,rfl⟩;have HRP:Hid (Lfc.runP s r=if le≠0 then .err le lat else r toks):=zH (by unfold Lfc.runP;rw[hL]);rw[hL] at CLX HRD HR;have HL:=zH hL;clear hrd hV hU0 hU hr ha ba q0 q1 q2 hL;simp only at CLX HRD HR
 go_enter_defers Tryz.func33,Tryz.ntmps33
 go_upto_region 1 with fail;clear hwa;rw[show w.heap.size+1+1=w.heap.size+2 from rfl];go_upto_region 2 with(go_at_call 22;refine CLX.o.mono ?_;rintro e w1⟨v,rfl,hown,b1⟩;have hs1:=b1.size;have q1:=(b1.block _ (by omega)).trans Q1.o;have q2:=(b1.block _ (by omega)).trans Q2.o;have y1:=zC q1 0;have f1:=zF q1 0;obtain⟨w2,hw2⟩:∃w2,w1.setCell ⟨w.heap.size+1,0,none⟩ (zI le)=w2:=⟨_,rfl⟩;have o12:Oth (w.heap.size+1) w1 w2:=(zV hw2);have q2':=o12.heap q2 (by omega);have y2:=zC q2' 0;have f2:=zF q2' 0);obtain⟨w3,hw3⟩:∃w3,w2.setCell ⟨w.heap.size+2,0,none⟩ (zI (lat:Int))=w3:=⟨_,rfl⟩;have o23:Oth (w.heap.size+2) w2 w3:=zV hw3;have hs2:=o12.size;have hs3:=o23.size;have p0:zk w3 w.heap.size #[zS] 26:=o23.heap (o12.heap ((b1.block _ (by omega)).trans Q0.o) (by omega)) (by omega);have p1:w3.heap[w.heap.size+1]?=some (.cells #[zI le] 27 (0,0)):=o23.heap (by rw[<-hw2];exact one_set q1) (by omega);have p2:w3.heap[w.heap.size+2]?=some (.cells #[zI (lat:Int)] 3 (0,0)):=by rw[<-hw3];exact one_set q2'
 rw[hw3];have b3:zb w w3:=Oth.below (Oth.below (BA.o.trans (b1.mono (by omega))) o12 (by omega) (by omega)) o23 (by omega) (by omega);have own3:w3.ownsRow wa.heap.size 65 3 v toks.length (tokCells toks):=(hown.kept o12 (Or.inr (fun e=>by have:=(hown.lt _ e).1;omega))).kept o23 (Or.inr (fun e=>by have:=(hown.lt _ e).1;omega));have P0:=zH p0;have P1:=zH p1;have P2:=zH p2;have B3:=zH b3;have OWN:=zH own3;have x1:=zC p1 0;have x2:=zC p2 0;simp at x1 x2;clear hw2 hw3 q1 q2 y1 f1 o12 q2' y2 f2 o23 own3 hown b1 b3;by_cases hle:le=0
 ·subst hle;have HF:Hid (Lfc.runP s r=r toks):=zH (by rw[HRP.o,if_neg (by simp)]);rw[HF.o];have CC:=zH (oclone_any l A c w3 (by omega) (HA.o.below B3.o));obtain⟨At,ct,rfl⟩:=own_form OWN.o;have hTA:=TokAt.of_own OWN.o;have hn3:=eq2 (show w3.heap.size=w3.heap.size from rfl);go_upto_region 5 with(go_at_call 61;refine CC.o.mono ?_;rintro e w4⟨Ao,co,rfl,hown4,b4⟩);obtain⟨w5,hw5⟩:∃w5,w4.alloc (.cells #[.slice At toks.length ct,zI 0,zI (s.length:Int),.slice Ao l.length co] 96)=w5:=⟨_,rfl⟩;have b5:=zG hw5;have q5:=zQ hw5;rw[hw5];have hg:=lex_good (l:=s) (by rw[HL.o]);rw[HL.o] at hg;obtain⟨hg1,hg2,hg3⟩:=hg;simp only at hg2 hg3;have hs4:=b4.size;have hs5:=b5.size;have hok:POk ⟨toks,s.length,l⟩:=⟨hg2,hg1,hl,fun t ht=>⟨by have:=(valid_le (hg3 t ht)).1;omega,fun _=>(valid_le (hg3 t ht)).2⟩⟩;have hpw:PW w5 w4.heap.size ⟨At,ct,Ao,co⟩ ⟨toks,s.length,l⟩ 0:=⟨q5,(hTA.below b4).below b5,(OpsAt.of_own HA.o.1 hown4.o).below b5⟩;have hbw5:zb w w5:=B3.o.trans ((b4.trans (b5.mono hs4)).mono (by omega));have hfrom:Hd.from ⟨At,ct,Ao,co⟩ (w.heap.size+3):=⟨fun a e=>by have:=OWN.o.lt a.block (by show Value.ownBlock (.slice At toks.length ct)=_;rw[show At=some a from e];rfl);omega,fun a e=>by have:=hown4.o.lt a.block (by show Value.ownBlock (.slice Ao l.length co)=_;rw[show Ao=some a from e];rfl);omega⟩;have CR:=zH (HRD.o _ _ w5 trivial hbw5 (by omega) hpw hok hfrom);have hne:=HR.o trivial;have R0:=zH ((b5.block _ (by omega)).trans ((b4.block _ (by omega)).trans P0.o));have R1:=zH ((b5.block _ (by omega)).trans ((b4.block _ (by omega)).trans P1.o));have R2:=zH ((b5.block _ (by omega)).trans ((b4.block _ (by omega)).trans P2.o));have BW5:=zH hbw5;clear hpw hok hbw5 hfrom hw5 b5 q5 b4 hown4 hTA p0 p1 p2 x1 x2;generalize hP:w4.heap.size=P at *;cases hr:r toks with
  |out=>exact absurd hr hne
  |err cc aa =>
   rw[hr] at CR;have HRR:=zH hr;clear hr hne;go_wp2_with fail;refine CR.o.mono ?_;rintro e w6⟨rfl,o6,hu6⟩;have HU6:=zH hu6;clear hu6;have q60:=(o6.block _ (zL R0.o) (by omega) (by omega)).trans R0.o;have q61:=(o6.block _ (zL R1.o) (by omega) (by omega)).trans R1.o;have q62:=(o6.block _ (zL R2.o) (by omega) (by omega)).trans R2.o;have O6:=zH o6;clear o6;go_wp2_with fail;refine leaves_cons (f:=62) (args:=#[.pointer (some ⟨w.heap.size,0,none⟩),.pointer (some ⟨w.heap.size+1,0,none⟩),.pointer (some ⟨w.heap.size+2,0,none⟩)]) (by simp) (by simp[go_sem]) ?_;refine(catch_fault w.heap.size (w.heap.size+1) (w.heap.size+2) cc aa _ _ _ w6 q60 q61 q62 (by omega) (by omega) (by omega)).mono ?_;rintro e u' w7⟨rfl,rfl,q70,q71,q72,o7⟩;have c0:=zC q70 0;have c1:=zC q71 0;have c2:=zC q72 0;simp at c0 c1 c2;simp[Leaves,settle,results,Tryz.results33,go_sem,c0,c1,c2];rw[HF.o,HRR.o];have hz:=BW5.o.size;have hz6:=O6.o.size;exact⟨rfl,⟨o7.os.trans (O6.o.os.trans BW5.o.os),o7.tape.trans (O6.o.tape.trans BW5.o.tape),o7.output.trans (O6.o.output.trans BW5.o.output),zR hz (zR hz6 o7.size),fun k hk hne=>by
    rw[o7.block k (by omega) (by omega) (by omega) (by omega),O6.o.block k (by omega) (by omega) (fun e=>hne (by rw[e])),BW5.o.block k hk]⟩,HU.o _ _ HU6.o o7⟩
  |ok l' k' =>
   rw[hr] at CR;have HRR:=zH hr;clear hr hne;go_wp2_with fail;refine CR.o.mono ?_;rintro e w6⟨rfl,⟨G,h6⟩,o6,hv6⟩;have q60:=(o6.block _ (zL R0.o) (by omega) (by omega)).trans R0.o;have q61:=(o6.block _ (zL R1.o) (by omega) (by omega)).trans R1.o;have q62:=(o6.block _ (zL R2.o) (by omega) (by omega)).trans R2.o;obtain⟨_,_,_,x3,_,_,ho6,_⟩:=h6.cells;obtain⟨s1,s2,s3,e1,e2,e3,⟨y0,y1,y2⟩,⟨f0,f1,f2⟩,HQ⟩:=put111 q60 q61 q62 (by omega) (by omega) (by omega) (.slice G.B l'.length G.d) (zI 0) (zI (s.length:Int));have HO6:=zH ho6;have HNS:=zJ (one_noStr q60 (by simp)) (And.intro (one_noStr q61 (by simp)) (one_noStr q62 (by simp)));have HV6:=zH hv6;have O6:=zH o6;simp only at x3;clear q60 q61 q62 ho6 hv6 o6 h6;go_wp2_with fail;refine leaves_cons (f:=62) (args:=#[.pointer (some ⟨w.heap.size,0,none⟩),.pointer (some ⟨w.heap.size+1,0,none⟩),.pointer (some ⟨w.heap.size+2,0,none⟩)]) (by simp) (by simp[go_sem]) ?_;refine(catch_idle _ _ _ s3).mono ?_;rintro e u' w7⟨rfl,rfl,rfl⟩;obtain⟨q70,q71,q72,o7⟩:=HQ.o;have c0:=zC q70 0;have c1:=zC q71 0;have c2:=zC q72 0;simp at c0 c1 c2;simp[Leaves,settle,results,Tryz.results33,go_sem,c0,c1,c2];rw[HF.o,HRR.o];have hz:=BW5.o.size;have hz6:=O6.o.size;obtain⟨n0,n1,n2⟩:=HNS.o;exact⟨⟨_,_,rfl,HO6.o.oth3 n0 n1 n2 o7⟩,⟨o7.os.trans (O6.o.os.trans BW5.o.os),o7.tape.trans (O6.o.tape.trans BW5.o.tape),o7.output.trans (O6.o.output.trans BW5.o.output),zR hz (zR hz6 o7.size),fun k hk hne=>by
    rw[o7.block k (by omega) (by omega) (by omega) (by omega),O6.o.block k (by omega) (by omega) (fun e=>hne (by rw[e])),BW5.o.block k hk]⟩,HV.o _ _ _ HV6.o o7⟩
 have hle2:(le != 0)=true:=by simpa using hle
 have HF:Hid (Lfc.runP s r=.err le lat):=zH (by rw[HRP.o,if_pos hle]);rw[HF.o];obtain⟨s1,s2,s3,e1,e2,e3,⟨y0,y1,y2⟩,⟨f0,f1,f2⟩,HQ⟩:=put111 (W:=w3.drew) p0 p1 p2 (by omega) (by omega) (by omega) zS (zI le) (zI (lat:Int));have o1:Oth w.heap.size w3.drew s1:=by rw[<-e1];exact Oth.set _ _
 have o2:Oth (w.heap.size+1) s1 s2:=by rw[<-e2];exact Oth.set _ _
 have x11:=zC (o1.heap p1 (by omega)) 0;have x12:=zC (o1.heap p2 (by omega)) 0;have x21:zc s2 (w.heap.size+1) 0 (zI le):=by rw[<-e2];exact zC (one_set (o1.heap p1 (by omega))) 0
 have x22:=zC (o2.heap (o1.heap p2 (by omega)) (by omega)) 0;simp at x11 x12 x22;clear o1 o2 p0 p1 p2;go_wp2_with fail;go_region;go_wp2_with fail;obtain⟨q70,q71,q72,o7⟩:=HQ.o;have c0:=zC q70 0;have c1:=zC q71 0;have c2:=zC q72 0;simp at c0 c1 c2;simp[bodyPostD,Leaves,settle,results,Tryz.results33,go_sem,c0,c1,c2];rw[HF.o];have hz:=B3.o.size;exact⟨rfl,⟨o7.os.trans B3.o.os,o7.tape.trans B3.o.tape,o7.output.trans B3.o.output,zR hz o7.size,fun k hk hne=>by
  rw[o7.block k (by show k<w3.heap.size;omega) (by omega) (by omega) (by omega)];exact B3.o.block k hk⟩,HU.o w3.drew s3 (HU0.o _ B3.o.drew) o7⟩
end
section
open Go.RowKit
mutual
def OrdC(w:World):Lfc.Ord→Value→Value→Value→Prop
 |.node k a ts,v0,v1,v2=>v0=.int .i64 k∧v1=.int .i64 a∧∃A c,v2=.slice A ts.length c∧ts.length≤c∧(ts≠[]→∃b o,A=some ⟨b,o,none⟩∧b<w.heap.size∧OrdsO w b ts o)
def OrdsO(w:World)(b:Nat):List Lfc.Ord→Nat→Prop
 |[],_=>True
 |t :: r,o=>(∃v0 v1 v2,w.cell? ⟨b,o,none⟩=some v0∧w.cell? ⟨b,o+1,none⟩=some v1∧w.cell? ⟨b,o+2,none⟩=some v2∧OrdC w t v0 v1 v2)∧OrdsO w b r (o+3)
end
mutual
theorem OrdC.below{w w':World}(hb:Below w.heap.size w w'):∀(t:Lfc.Ord)(v0 v1 v2:Value),OrdC w t v0 v1 v2→OrdC w' t v0 v1 v2
 |.node k a ts,v0,v1,v2,h=>by
  rw[OrdC] at h ⊢;obtain⟨h0,h1,A,c,h3,h4,h5⟩:=h;refine⟨h0,h1,A,c,h3,h4,fun hne=>?_⟩;obtain⟨b,o,hA,hlt,hts⟩:=h5 hne;exact⟨b,o,hA,Zl hlt hb.size,OrdsO.below hb ts b o hlt hts⟩
theorem OrdsO.below{w w':World}(hb:Below w.heap.size w w'):∀(ts:List Lfc.Ord)(b o:Nat),b<w.heap.size→OrdsO w b ts o→OrdsO w' b ts o
 |[],_,_,_,_=>by rw[OrdsO];trivial
 |t :: r,b,o,hlt,h=>by
  rw[OrdsO] at h ⊢;obtain⟨⟨v0,v1,v2,c0,c1,c2,ht⟩,hr⟩:=h;exact⟨⟨v0,v1,v2,(hb.cell (p:=⟨b,_,none⟩) hlt).trans c0,(hb.cell (p:=⟨b,_,none⟩) hlt).trans c1,(hb.cell (p:=⟨b,_,none⟩) hlt).trans c2,OrdC.below hb t v0 v1 v2 ht⟩,OrdsO.below hb r b (o+3) hlt hr⟩
end
theorem OrdsO.at_{w:World}{b:Nat}:∀(ts:List Lfc.Ord)(o i:Nat)(t:Lfc.Ord),OrdsO w b ts o→ts[i]?=some t →
  ∃v0 v1 v2,w.cell? ⟨b,o+i*3,none⟩=some v0∧w.cell? ⟨b,o+i*3+1,none⟩=some v1∧w.cell? ⟨b,o+i*3+2,none⟩=some v2∧OrdC w t v0 v1 v2:=by
 intro ts;induction ts with
 |nil=>intro o i t _ h;simp at h
 |cons a r ih =>
  intro o i t h hi;rw[OrdsO] at h;cases i with
  |zero=>simp at hi;subst hi;simpa using h.1
  |succ i =>
   have:=ih (o+3) i t h.2 (by simpa using hi);rw[show o+(i+1)*3=o+3+i*3 by omega];exact this
def OrdV(w:World)(t:Lfc.Ord)(v:Value):Prop:=∃v0 v1 v2,v=.agg #[v0,v1,v2]∧OrdC w t v0 v1 v2
theorem OrdV.below{w w':World}{t:Lfc.Ord}{v:Value}(h:OrdV w t v)(hb:Below w.heap.size w w'):OrdV w' t v:=by
 obtain⟨v0,v1,v2,rfl,h⟩:=h;exact⟨v0,v1,v2,rfl,OrdC.below hb t _ _ _ h⟩
def OrdsAt(w:World)(A:Option Addr)(ts:List Lfc.Ord):Prop:=ts≠[]→∃b o,A=some ⟨b,o,none⟩∧b<w.heap.size∧OrdsO w b ts o
theorem OrdsAt.below{w w':World}{A:Option Addr}{ts:List Lfc.Ord}(h:OrdsAt w A ts)(hb:Below w.heap.size w w'):OrdsAt w' A ts:=fun hne=>by
 obtain⟨b,o,hA,hlt,h⟩:=h hne;exact⟨b,o,hA,Zl hlt hb.size,OrdsO.below hb ts b o hlt h⟩
theorem OrdV.open_{w:World}{k a:Int}{ts:List Lfc.Ord}{v:Value}(h:OrdV w (.node k a ts) v):∃A c,v=.agg #[.int .i64 k,.int .i64 a,.slice A ts.length c]∧ts.length≤c∧OrdsAt w A ts:=by
 obtain⟨v0,v1,v2,rfl,h⟩:=h;rw[OrdC] at h;obtain⟨rfl,rfl,A,c,rfl,hc,h⟩:=h;exact⟨A,c,rfl,hc,h⟩
theorem OrdV.mk{w:World}{k a:Int}{ts:List Lfc.Ord}{A:Option Addr}{c:Nat}(hc:ts.length≤c)(h:OrdsAt w A ts):OrdV w (.node k a ts) (.agg #[.int .i64 k,.int .i64 a,.slice A ts.length c]) :=
 ⟨_,_,_,rfl,by rw[OrdC];exact⟨rfl,rfl,A,c,rfl,hc,h⟩⟩
theorem OrdsAt.at_{w:World}{A:Option Addr}{ts:List Lfc.Ord}(h:OrdsAt w A ts){i:Nat}(hi:i<ts.length) :
  ∃b o k a us B c,A=some ⟨b,o,none⟩∧b<w.heap.size∧ts[i]=.node k a us∧w.cell? ⟨b,o+i*3,none⟩=some (.int .i64 k)∧w.cell? ⟨b,o+i*3+1,none⟩=some (.int .i64 a)∧w.cell? ⟨b,o+i*3+2,none⟩=some (.slice B us.length c) ∧
   us.length≤c∧OrdsAt w B us∧OrdV w ts[i] (.agg #[.int .i64 k,.int .i64 a,.slice B us.length c]):=by
 obtain⟨b,o,hA,hlt,hts⟩:=h (by intro h0;rw[h0] at hi;simp at hi);obtain⟨v0,v1,v2,c0,c1,c2,ht⟩:=OrdsO.at_ ts o i ts[i] hts (Zg hi);cases ht':ts[i] with
 |node k a us =>
  rw[ht'] at ht;have htv:OrdV w (.node k a us) (.agg #[v0,v1,v2]):=⟨v0,v1,v2,rfl,ht⟩;rw[OrdC] at ht;obtain⟨rfl,rfl,B,c,rfl,hc,hB⟩:=ht;exact⟨b,o,k,a,us,B,c,hA,hlt,rfl,c0,c1,c2,hc,hB,htv⟩
theorem cells3o{W:World}{g:Nat}{v0 v1 v2:Value}{t:TypeId}(h:W.heap[g]?=some (.cells #[v0,v1,v2] t (0,0))):W.cell? ⟨g,0,none⟩=some v0∧W.cell? ⟨g,1,none⟩=some v1∧W.cell? ⟨g,2,none⟩=some v2 :=
 ⟨zC h 0,zC h 1,zC h 2⟩
end
end Go.Proofs.YthajalgkjonaaaaGreatDoor
