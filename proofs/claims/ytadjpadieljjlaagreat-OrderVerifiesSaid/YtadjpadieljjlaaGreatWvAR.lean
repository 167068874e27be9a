/- Parts of the proof that no input makes the law false: OvP, OvM, OcAk2, OcAk3, OcAkR. -/
import Derived.Test.YtadjpadieljjlaaGreatWvAQ
set_option linter.unusedVariables false
set_option linter.unusedSimpArgs false
set_option maxRecDepth 100000
set_option maxHeartbeats 32000000
namespace Lfc
inductive Prf where
 |node (ix:Int) (ps:List Prf) (ch bk:List Link)
mutual
def Prf.size:Prf→Nat
 |.node _ ps _ _=>Prf.sizes ps+1
def Prf.sizes:List Prf→Nat
 |[]=>0
 |a :: r=>Prf.size a+Prf.sizes r
end
theorem Prf.size_pos(p:Prf):0<p.size:=by cases p;simp[Prf.size]
theorem Prf.sizes_mem:∀(ps:List Prf)(p:Prf),p∈ps→p.size≤Prf.sizes ps
 |a :: r,p,h=>by
  rw[Prf.sizes];rcases List.mem_cons.1 h with rfl | h
  ·omega
  have:=Prf.sizes_mem r p h;omega
theorem Prf.sizes_len:∀(ps:List Prf),ps.length≤Prf.sizes ps
 |[]=>by simp[Prf.sizes]
 |a :: r=>by
  rw[Prf.sizes,List.length_cons];have:=Prf.size_pos a;have:=Prf.sizes_len r;omega
def Raw.nul:Raw→Bool
 |.node k n p ts=>decide (k=0) && decide (n=[]) && decide (p=0) && decide (ts.length=0)
def lstep(ks:List Int)(fs:List Fact)(x:Raw)(k:Link):Option (Raw × Bool) :=
 if k.kind=1 then(if k.fact=0∧Raw.fits ks x k.term k.path=true then some (k.term,decide (0<k.path.length)) else none)
 else if k.kind=2 then(if (k.term.nul=true∧k.path.length=0)∧(0≤k.fact∧k.fact<(fs.length:Int))∧Raw.tsm x (fs.getD k.fact.toNat noFact).l=true then some ((fs.getD k.fact.toNat noFact).r,decide ((fs.getD k.fact.toNat noFact).rel=1)) else none)
 else if k.kind=3 then(if (k.term.nul=true∧k.path.length=0)∧(0≤k.fact∧k.fact<(fs.length:Int))∧(fs.getD k.fact.toNat noFact).rel=3∧Raw.tsm x (fs.getD k.fact.toNat noFact).r=true then some ((fs.getD k.fact.toNat noFact).l,false) else none)
 else none
def fol(ks:List Int)(fs:List Fact):Raw→List Link→Int→Option (Raw × Int)
 |x,[],s=>some (x,s)
 |x,k :: r,s=>match lstep ks fs x k with
  |none=>none
  |some (y,b)=>fol ks fs y r (if b then 2 else s)
def folS(ks:List Int)(fs:List Fact)(l r:Raw)(ch:List Link):Int :=
 match fol ks fs l ch 1 with
 |none=>0
 |some (x,s)=>if Raw.tsm x r=true then s else 0
theorem fol_app(ks:List Int)(fs:List Fact):∀(x:Raw)(l m:List Link)(s:Int),fol ks fs x (l++m) s=match fol ks fs x l s with | none=>none | some (y,t)=>fol ks fs y m t
 |x,[],m,s=>rfl
 |x,k :: r,m,s=>by
  rw[List.cons_append,fol,fol];cases lstep ks fs x k with
  |none=>rfl
  |some q=>exact fol_app ks fs q.1 r m _
theorem fol_take{ks:List Int}{fs:List Fact}{t x:Raw}{l:List Link}{s:Int}{i:Nat}(hi:i<l.length)(h:fol ks fs t (l.take i) 1=some (x,s)):fol ks fs t (l.take (i+1)) 1=match lstep ks fs x l[i] with | none=>none | some (y,b)=>some (y,if b then 2 else s):=by
 rw[List.take_succ_eq_append_getElem hi,fol_app,h];show fol ks fs x [l[i]] s=_;rw[fol];cases lstep ks fs x l[i] with
 |none=>rfl
 |some q=>rfl
theorem fol_none{ks:List Int}{fs:List Fact}{t:Raw}{l:List Link}{i:Nat}(h:fol ks fs t (l.take i) 1=none):fol ks fs t l 1=none:=by
 have e:l=l.take i++l.drop i:=(List.take_append_drop i l).symm;rw[e,fol_app,h]
theorem stands_pth{ks:List Int}{t:Raw}:∀(path:List Int)(u:Raw)(cr:Nat),Raw.fit ks t path u cr=true→occ ks t u cr∧(path≠[]→t.size<u.size)
 |[],u,cr,h=>by
  obtain⟨k,n,p,xs⟩:=u;rw[Raw.fit] at h;refine⟨?_,fun h=>absurd rfl h⟩;rw[occ];exact .inl h
 |i :: r,.node k n p xs,cr,h=>by
  by_cases hb:Raw.pas ks cr (.node k n p xs)=false∨i<0∨(xs.length:Int)≤i
  ·rw[Raw.fit_no hb] at h;cases h
  have h1:Raw.pas ks cr (.node k n p xs)=true:=by
   cases e:Raw.pas ks cr (.node k n p xs) with
   |true=>rfl
   |false=>exact absurd (.inl e) hb
  have h2:0≤i∧i<(xs.length:Int):=by omega
  obtain⟨j,rfl⟩:∃j:Nat,i=(j:Int):=⟨i.toNat,by omega⟩;have hj:j<xs.length:=by omega
  rw[Raw.fit_go h1 hj] at h;obtain⟨a,b⟩:=stands_pth r xs[j] _ h;have hm:=Raw.sizes_mem xs xs[j] (List.getElem_mem _);refine⟨?_,fun _=>?_⟩
  ·rw[occ];exact .inr ⟨h1,occs_at xs j hj _ a⟩
  rw[Raw.size];by_cases hr:r=[]
  ·subst hr;rw[Raw.fit] at h;obtain⟨f,hf⟩:=stands_iff.1 h;have:=sub_size' _ _ _ hf;omega
  have:=b hr;omega
where
 occs_at {ks:List Int} {t:Raw}:∀(xs:List Raw)(j:Nat)(h:j<xs.length)(cr:Nat),occ ks t xs[j] cr→occs ks t xs cr
  |a :: r,0,_,cr,h=>by rw[occs];exact .inl h
  |a :: r,j+1,hj,cr,h=>by rw[occs];exact .inr (occs_at r j (by simpa using hj) cr h)
 sub_size' {ks:List Int} {f:Nat→Int} {cr:Nat}:∀(s t:Raw)(d:Int),sub ks f cr s t d→s.size=t.size
  |.node k n p xs,.node k' n' p' ys,d,h=>by
   rw[sub] at h;rw[Raw.size,Raw.size,subs_size' xs ys _ h.2.2]
 subs_size' {ks:List Int} {f:Nat→Int} {cr:Nat}:∀(xs ys:List Raw)(d:Int),subs ks f cr xs ys d→Raw.sizes xs=Raw.sizes ys
  |[],[],_,_=>rfl
  |a :: r,b :: q,d,h=>by
   rw[subs] at h;rw[Raw.sizes,Raw.sizes,sub_size' a b d h.1,subs_size' r q d h.2]
  |[],_ :: _,_,h=>by rw[subs] at h;exact h.elim
  |_ :: _,[],_,h=>by rw[subs] at h;exact h.elim
mutual
theorem same_sub{ks:List Int}{f:Nat→Int}:∀(s t:Raw)(d:Int),Raw.tsm t s=true→sub ks f 0 s t d
 |.node k n p xs,.node k' n' p' ys,d,h=>by
  rw[Raw.tsm] at h;simp only[Bool.and_eq_true,Bool.or_eq_true,decide_eq_true_eq] at h;obtain⟨⟨⟨rfl,rfl⟩,hn⟩,hx⟩:=h;rw[sub];refine⟨rfl,?_,sames_subs xs ys _ hx⟩;unfold subN;split
  ·rename_i hk;rcases hn with(h | h) | h
   ·exact h.symm
   ·omega
   omega
  split
  ·split
   ·rfl
   rw[if_neg (by omega)];omega
  first | rfl | trivial | (intro _;rfl) | (split <;> first | rfl | trivial)
theorem sames_subs{ks:List Int}{f:Nat→Int}:∀(xs ys:List Raw)(d:Int),Raw.tsms ys xs=true→subs ks f 0 xs ys d
 |[],[],d,_=>by rw[subs];trivial
 |a :: r,b :: q,d,h=>by
  rw[Raw.tsms,Bool.and_eq_true] at h;rw[subs];exact⟨same_sub a b d h.1,sames_subs r q d h.2⟩
 |[],_ :: _,d,h=>by simp[Raw.tsms] at h
 |_ :: _,[],d,h=>by simp[Raw.tsms] at h
end
mutual
theorem tsm_refl:∀t:Raw,Raw.tsm t t=true
 |.node k n p xs=>by rw[Raw.tsm,tsms_refl xs];simp
theorem tsms_refl:∀xs:List Raw,Raw.tsms xs xs=true
 |[]=>by simp[Raw.tsms]
 |a :: r=>by rw[Raw.tsms,tsm_refl a,tsms_refl r];rfl
end
theorem up_same{ks:List Int}{x y:Raw}(hx:x.isO=true)(hy:y.isO=true)(h:Raw.tsm x y=true):0<upS ks x y:=by
 refine upS_pos.2 ⟨⟨hx,hy⟩,?_⟩;have:Raw.stands ks 0 y x=true:=stands_iff.2 ⟨fun _=>0,same_sub y x 0 h⟩;obtain⟨k,n,p,xs⟩:=y;rw[occ];exact .inl this
theorem up_fits{ks:List Int}{x y:Raw}{path:List Int}(h:Raw.fits ks x y path=true):(x.isO=true∧y.isO=true)∧0<upS ks x y∧(0<path.length→upS ks x y=2):=by
 rw[Raw.fits,Bool.and_eq_true,Bool.and_eq_true] at h;obtain⟨⟨hx,hy⟩,h⟩:=h;obtain⟨ho,hs⟩:=stands_pth path y 0 h;have hp:=upS_pos.2 ⟨⟨hx,hy⟩,ho⟩;refine⟨⟨hx,hy⟩,hp,fun hl=>?_⟩;have h1:=hs (by intro e;rw[e] at hl;simp at hl);rcases upS_range ks x y with h0 | h0 | h0
 ·omega
 ·have:=upS_eq h0;omega
 exact h0
theorem sd_even{fs:List Fact}(m:Nat):sd fs (2*m)=(fs.getD m noFact).l∧sd fs (2*m+1)=(fs.getD m noFact).r:=by
 unfold sd;rw[show 2*m % 2=0 by omega,show 2*m / 2=m by omega,show(2*m+1) % 2=1 by omega,show(2*m+1) / 2=m by omega];simp
theorem lstep_chn{ks:List Int}{fs:List Fact}{x y:Raw}{k:Link}{b:Bool}(hfs:∀f∈fs,f.l.isO=true∧f.r.isO=true)(hx:x.isO=true)(h:lstep ks fs x k=some (y,b)):y.isO=true∧chn ks fs x y (if b=true then 2 else 1):=by
 rw[lstep] at h;split at h
 ·split at h
  ·rename_i h1;obtain⟨h2,h3,h4⟩:=up_fits h1.2;injection h with h;injection h with e1 e2;subst e1;subst e2;refine⟨h2.2,.inl ?_⟩;by_cases hp:0<k.path.length
   ·rw[if_pos (by simpa using hp)];have:=h4 hp;omega
   rw[if_neg (by simpa using hp)];omega
  cases h
 split at h
 ·split at h
  ·rename_i h1;obtain⟨_,⟨f0,f1⟩,h2⟩:=h1;injection h with h;injection h with e1 e2;obtain⟨m,hm⟩:∃m:Nat,k.fact=(m:Int):=⟨k.fact.toNat,by omega⟩;rw[hm,Int.toNat_natCast] at e1 e2 h2;have hml:m<fs.length:=(by omega);have hmem:fs.getD m noFact∈fs:=(by rw[List.getD_eq_getElem?_getD,List.getElem?_eq_getElem hml];exact List.getElem_mem _);have ho:=hfs _ hmem;obtain⟨s0,s1⟩:=sd_even (fs:=fs) m;subst e1;subst e2;have r0:=Rch.start (ks:=ks) (fs:=fs) (l:=x) (2*m) (by omega) (by rw[s0];exact up_same hx ho.1 h2);have hst:stp ks fs (2*m) (2*m+1)=if (fs.getD m noFact).rel=1 then 2 else if upS ks (sd fs (2*m)) (sd fs (2*m+1))=2 then 2 else 1:=by
    unfold stp;rw[if_pos ⟨by omega,by omega⟩,if_pos (by omega),show 2*m / 2=m by omega]
   have hpos:0<stp ks fs (2*m) (2*m+1):=(by rw[hst];split <;> (try split) <;> omega);have r1:=Rch.step (2*m) (2*m+1) _ r0 (by omega) (by omega) hpos;have u1:=up_same (ks:=ks) ho.2 ho.2 (tsm_refl _);refine⟨ho.2,.inr ⟨2*m+1,_,r1,by rw[s1];exact u1,?_⟩⟩;by_cases hr:(fs.getD m noFact).rel=1
   ·rw[if_pos (by simpa using hr)];rw[if_pos hr] at hst;omega
   rw[if_neg (by simpa using hr)];omega
  cases h
 split at h
 ·split at h
  ·rename_i h1;obtain⟨_,⟨f0,f1⟩,hrel,h2⟩:=h1;injection h with h;injection h with e1 e2;obtain⟨m,hm⟩:∃m:Nat,k.fact=(m:Int):=⟨k.fact.toNat,by omega⟩;rw[hm,Int.toNat_natCast] at e1 h2 hrel;have hml:m<fs.length:=(by omega);have hmem:fs.getD m noFact∈fs:=(by rw[List.getD_eq_getElem?_getD,List.getElem?_eq_getElem hml];exact List.getElem_mem _);have ho:=hfs _ hmem;obtain⟨s0,s1⟩:=sd_even (fs:=fs) m;subst e1;subst e2;have r0:=Rch.start (ks:=ks) (fs:=fs) (l:=x) (2*m+1) (by omega) (by rw[s1];exact up_same hx ho.2 h2);have hst:stp ks fs (2*m+1) (2*m)=if upS ks (sd fs (2*m+1)) (sd fs (2*m))=2 then 2 else 1:=by
    unfold stp;rw[if_pos ⟨by omega,by omega⟩,if_neg (by omega),show(2*m+1) / 2=m by omega,if_pos hrel]
   have hpos:0<stp ks fs (2*m+1) (2*m):=(by rw[hst];split <;> omega);have r1:=Rch.step (2*m+1) (2*m) _ r0 (by omega) (by omega) hpos;have u1:=up_same (ks:=ks) ho.1 ho.1 (tsm_refl _);refine⟨ho.1,.inr ⟨2*m,_,r1,by rw[s0];exact u1,?_⟩⟩;rw[if_neg (by decide)];omega
  cases h
 cases h
theorem fol_chn{ks:List Int}{fs:List Fact}{l:Raw}(hfs:∀f∈fs,f.l.isO=true∧f.r.isO=true):∀(ch:List Link)(x y:Raw)(s t:Int),x.isO=true→(s=1∨s=2)→chn ks fs l x s→fol ks fs x ch s=some (y,t)→y.isO=true∧(t=1∨t=2)∧chn ks fs l y t
 |[],x,y,s,t,hx,hs,hc,h=>by
  rw[fol] at h;injection h with h;injection h with e1 e2;subst e1;subst e2;exact⟨hx,hs,hc⟩
 |k :: r,x,y,s,t,hx,hs,hc,h=>by
  rw[fol] at h;cases hl:lstep ks fs x k with
  |none=>rw[hl] at h;cases h
  |some q =>
   obtain⟨z,b⟩:=q;rw[hl] at h;obtain⟨hz,hcz⟩:=lstep_chn hfs hx hl;refine fol_chn hfs r z y _ t hz ?_ ?_ h
   ·cases b
    ·exact hs
    exact .inr rfl
   refine chn_trans hc hcz (by omega) (by split <;> omega) ?_;cases b
   ·exact .inl (Int.le_refl _)
   exact .inr (Int.le_refl _)
theorem folS_range(ks:List Int)(fs:List Fact)(l r:Raw)(ch:List Link)(hfs:∀f∈fs,f.l.isO=true∧f.r.isO=true)(hl:l.isO=true)(hr:r.isO=true):folS ks fs l r ch=0∨((folS ks fs l r ch=1∨folS ks fs l r ch=2)∧chn ks fs l r (folS ks fs l r ch)):=by
 unfold folS;cases h:fol ks fs l ch 1 with
 |none=>exact .inl rfl
 |some q =>
  obtain⟨x,s⟩:=q;have h0:chn ks fs l l 1:=.inl (by have:=up_same (ks:=ks) hl hl (tsm_refl _);omega);obtain⟨hx,hs,hc⟩:=fol_chn hfs ch l x 1 s hl (.inl rfl) h0 h;by_cases ht:Raw.tsm x r=true
  ·simp only[if_pos ht];refine .inr ⟨hs,?_⟩;have h1:chn ks fs x r 1:=.inl (by have:=up_same (ks:=ks) hx hr ht;omega);exact chn_trans hc h1 (by omega) (by omega) (.inl (Int.le_refl _))
  simp only[if_neg ht];exact .inl trivial
section
variable (ks:List Int) (fs:List Fact) (ts us:List Raw)
mutual
def vrf:Ods→Int→Prf→Bool
 |.arg i j,rel,.node ix ps ch bk =>
  (decide (ix=0) && decide (ps.length=0)) && (decide (folS ks fs (ts.getD i blk) (us.getD j blk) ch≠0) && decide (rel=1→folS ks fs (ts.getD i blk) (us.getD j blk) ch=2)) && (if rel=3 then decide (folS ks fs (us.getD j blk) (ts.getD i blk) bk≠0) else decide (bk.length=0))
 |.lex qs,rel,.node ix ps ch bk =>
  (decide (ch.length=0) && decide (bk.length=0) && decide (0≤ix) && decide (ix≤(qs.length:Int))) && (decide (rel=1→ix<(qs.length:Int)) && decide (rel=3→¬ix<(qs.length:Int)) && decide ((ps.length:Int)=min (ix+1) (qs.length:Int))) && vrfs qs (fun i=>if (i:Int)=ix then 1 else 3) ps 0
 |.sim qs,rel,.node ix ps ch bk =>
  (decide (ch.length=0) && decide (bk.length=0) && decide (0≤ix) && decide (ix≤(qs.length:Int))) && (decide (ix<(qs.length:Int)↔rel=1) && decide ((ps.length:Int)=(qs.length:Int))) && vrfs qs (fun i=>if rel=3 then 3 else if (i:Int)=ix then 1 else 2) ps 0
def vrfs:List Ods→(Nat→Int)→List Prf→Nat→Bool
 |_,_,[],_=>true
 |[],_,_ :: _,_=>false
 |q :: r,w,p :: t,i=>vrf q (w i) p && vrfs r w t (i+1)
end
end
section
variable {L W B:Nat→Nat→Prop}
theorem eqs_of:∀(qs:List Ods),(∀(k:Nat)(h:k<qs.length),Ods.eq W B qs[k])→Ods.eqs W B qs
 |[],_=>by simp only[Ods.eqs]
 |q :: r,h=>by
  simp only[Ods.eqs];exact⟨h 0 (by simp),eqs_of r (fun k hk=>h (k+1) (by simpa using hk))⟩
theorem les_of:∀(qs:List Ods),(∀(k:Nat)(h:k<qs.length),Ods.le L W B qs[k])→Ods.les L W B qs
 |[],_=>by simp only[Ods.les]
 |q :: r,h=>by
  simp only[Ods.les];exact⟨h 0 (by simp),les_of r (fun k hk=>h (k+1) (by simpa using hk))⟩
theorem anyL_of:∀(qs:List Ods)(m:Nat)(hm:m<qs.length),Ods.ls L W B qs[m]→Ods.anyL L W B qs
 |q :: r,0,_,h=>by simp only[Ods.anyL];exact .inl h
 |q :: r,m+1,hm,h=>by simp only[Ods.anyL];exact .inr (anyL_of r m (by simpa using hm) h)
theorem lexL_of:∀(qs:List Ods)(m:Nat)(hm:m<qs.length),(∀(k:Nat)(h:k<qs.length),k<m→Ods.eq W B qs[k])→Ods.ls L W B qs[m]→Ods.lexL L W B qs
 |q :: r,0,_,_,h=>by simp only[Ods.lexL];exact .inl h
 |q :: r,m+1,hm,he,h=>by
  simp only[Ods.lexL];exact .inr ⟨he 0 (by simp) (by omega),lexL_of r m (by simpa using hm) (fun k hk hkm=>he (k+1) (by simpa using hk) (by omega)) h⟩
end
section
variable {ks:List Int} {fs:List Fact} {ts us:List Raw}
theorem getD_isO{xs:List Raw}(h:∀t∈xs,t.isO=true){i:Nat}(hi:i<xs.length):(xs.getD i blk).isO=true:=by
 rw[List.getD_eq_getElem?_getD,List.getElem?_eq_getElem hi,Option.getD_some];exact h _ (List.getElem_mem hi)
mutual
theorem vrf_snd(hfs:∀f∈fs,f.l.isO=true∧f.r.isO=true)(ht:∀t∈ts,t.isO=true)(hu:∀t∈us,t.isO=true):∀(p:Ods)(rel:Int)(x:Prf),p.rng ts.length us.length→vrf ks fs ts us p rel x=true→(rel=1→Ods.ls (chF ks fs ts us 2) (chF ks fs ts us 1) (chB ks fs ts us) p)∧(rel=2→Ods.le (chF ks fs ts us 2) (chF ks fs ts us 1) (chB ks fs ts us) p)∧(rel=3→Ods.eq (chF ks fs ts us 1) (chB ks fs ts us) p)
 |.arg i j,rel,.node ix ps ch bk,hr,h=>by
  rw[vrf] at h;simp only[Bool.and_eq_true,decide_eq_true_eq] at h;obtain⟨⟨_,h0,h1⟩,h2⟩:=h;simp only[Ods.rng] at hr;have r1:=folS_range ks fs (ts.getD i blk) (us.getD j blk) ch hfs (getD_isO ht hr.1) (getD_isO hu hr.2);have r2:=folS_range ks fs (us.getD j blk) (ts.getD i blk) bk hfs (getD_isO hu hr.2) (getD_isO ht hr.1);obtain⟨a1,c1⟩:=r1.resolve_left h0;simp only[Ods.ls,Ods.le,Ods.eq];have w1:chF ks fs ts us 1 i j:=chn_less (by omega) c1;refine⟨fun e=>?_,fun e=>w1,fun e=>⟨w1,?_⟩⟩
  ·have:=h1 e;rw[this] at c1;exact c1
  rw[if_pos e] at h2;obtain⟨a2,c2⟩:=r2.resolve_left (by simpa using h2);exact chn_less (by omega) c2
 |.lex qs,rel,.node ix ps ch bk,hr,h=>by
  rw[vrf] at h;simp only[Bool.and_eq_true,decide_eq_true_eq] at h;obtain⟨⟨⟨⟨⟨_,_⟩,hx0⟩,hxn⟩,⟨h1,h3⟩,hl⟩,hv⟩:=h;simp only[Ods.rng] at hr;obtain⟨hle,hp⟩:=vrfs_snd hfs ht hu qs _ ps 0 hr hv;obtain⟨m,rfl⟩:∃m:Nat,ix=(m:Int):=⟨ix.toNat,by omega⟩;simp only[Nat.zero_add] at hp;simp only[Ods.ls,Ods.le,Ods.eq];have hlex:(m:Int)<(qs.length:Int)→Ods.lexL (chF ks fs ts us 2) (chF ks fs ts us 1) (chB ks fs ts us) qs:=fun hm=>by
   refine lexL_of qs m (by omega) (fun k hk hkm=>?_) ?_
   ·exact(hp k (by omega) hk).2.2 (by rw[if_neg (by omega)])
   exact(hp m (by omega) (by omega)).1 (by rw[if_pos rfl])
  have heq:¬(m:Int)<(qs.length:Int)→Ods.eqs (chF ks fs ts us 1) (chB ks fs ts us) qs:=fun hm=>by
   refine eqs_of qs (fun k hk=>?_);exact(hp k (by omega) hk).2.2 (by rw[if_neg (by omega)])
  refine⟨fun e=>hlex (h1 e),fun _=>?_,fun e=>heq (h3 e)⟩;by_cases hm:(m:Int)<(qs.length:Int)
  ·exact .inl (hlex hm)
  exact .inr (heq hm)
 |.sim qs,rel,.node ix ps ch bk,hr,h=>by
  rw[vrf] at h;simp only[Bool.and_eq_true,decide_eq_true_eq] at h;obtain⟨⟨⟨⟨⟨_,_⟩,hx0⟩,hxn⟩,h1,hl⟩,hv⟩:=h;simp only[Ods.rng] at hr;obtain⟨hle,hp⟩:=vrfs_snd hfs ht hu qs _ ps 0 hr hv;obtain⟨m,rfl⟩:∃m:Nat,ix=(m:Int):=⟨ix.toNat,by omega⟩;simp only[Nat.zero_add] at hp;simp only[Ods.ls,Ods.le,Ods.eq];have hb:=fun q=>ods_basic (B:=chB ks fs ts us) (chn_21 (ks:=ks) (fs:=fs) (ts:=ts) (us:=us)) q;have hbs:=ods_basics (B:=chB ks fs ts us) (chn_21 (ks:=ks) (fs:=fs) (ts:=ts) (us:=us)) qs;refine⟨fun e=>?_,fun e=>?_,fun e=>?_⟩
  ·have hm:=h1.2 e;refine hbs.1.2 ⟨les_of qs (fun k hk=>?_),anyL_of qs m (by omega) ((hp m (by omega) (by omega)).1 (by rw[if_neg (by omega),if_pos rfl]))⟩;by_cases hkm:k=m
   ·exact(hb _).1 ((hp k (by omega) hk).1 (by rw[if_neg (by omega),if_pos (by omega)]))
   exact(hp k (by omega) hk).2.1 (by rw[if_neg (by omega),if_neg (by omega)])
  ·have hm:¬(m:Int)<(qs.length:Int):=fun hm=>(by have:=h1.1 hm;omega);exact les_of qs (fun k hk=>(hp k (by omega) hk).2.1 (by rw[if_neg (by omega),if_neg (by omega)]))
  exact eqs_of qs (fun k hk=>(hp k (by omega) hk).2.2 (by rw[if_pos e]))
theorem vrfs_snd(hfs:∀f∈fs,f.l.isO=true∧f.r.isO=true)(ht:∀t∈ts,t.isO=true)(hu:∀t∈us,t.isO=true):∀(qs:List Ods)(w:Nat→Int)(ps:List Prf)(i:Nat),Ods.rngs ts.length us.length qs→vrfs ks fs ts us qs w ps i=true→ps.length≤qs.length∧∀(k:Nat)(h:k<ps.length)(h':k<qs.length),(w (i+k)=1→Ods.ls (chF ks fs ts us 2) (chF ks fs ts us 1) (chB ks fs ts us) qs[k])∧(w (i+k)=2→Ods.le (chF ks fs ts us 2) (chF ks fs ts us 1) (chB ks fs ts us) qs[k])∧(w (i+k)=3→Ods.eq (chF ks fs ts us 1) (chB ks fs ts us) qs[k])
 |qs,w,[],i,_,_=>⟨Nat.zero_le _,fun k h=>by cases h⟩
 |[],w,p :: t,i,_,h=>by rw[vrfs] at h;cases h
 |q :: r,w,p :: t,i,hr,h=>by
  rw[vrfs,Bool.and_eq_true] at h;simp only[Ods.rngs] at hr;have h1:=vrf_snd hfs ht hu q (w i) p hr.1 h.1;obtain⟨h2,h3⟩:=vrfs_snd hfs ht hu r w t (i+1) hr.2 h.2;refine⟨by simp only[List.length_cons];omega,fun k hk hk'=>?_⟩;cases k with
  |zero=>exact h1
  |succ k =>
   have:=h3 k (by simpa using hk) (by simpa using hk');rw[show i+1+k=i+(k+1) by omega] at this;exact this
end
theorem vrf_holds{o p:Ord}{rel:Int}{x:Prf}(hrel:rel=1∨rel=2∨rel=3)(hc:chkF fs o p ts us=0)(hr:(odsOf o p).rng ts.length us.length)(h:vrf ks fs ts us (odsOf o p) rel x=true):hldF ks fs o p ts us rel:=by
 have hall:=(chkF_all.1 hc).1;have fl:∀{gs:List Fact}{f:Fact},f∈gs→f.l∈flat gs∧f.r∈flat gs:=by
  intro gs;induction gs with
  |nil=>intro f h;cases h
  |cons a r ih =>
   intro f h;rw[flat];rcases List.mem_cons.1 h with rfl | h
   ·exact⟨by simp,by simp⟩
   have:=ih h;exact⟨by simp[this.1],by simp[this.2]⟩
 have hs:=vrf_snd (fun f hf=>⟨(hall _ (List.mem_append_left _ (List.mem_append_left _ (fl hf).1))).2,(hall _ (List.mem_append_left _ (List.mem_append_left _ (fl hf).2))).2⟩) (fun t ht=>(hall _ (List.mem_append_left _ (List.mem_append_right _ ht))).2) (fun t ht=>(hall _ (List.mem_append_right _ ht)).2) _ rel x hr h;refine⟨hc,?_⟩;rcases hrel with e | e | e
 ·exact .inl ⟨e,hs.1 e⟩
 ·exact .inr (.inl ⟨e,hs.2.1 e⟩)
 exact .inr (.inr ⟨e,hs.2.2 e⟩)
end
end Lfc
namespace Lfc
mutual
def Prf.ok(N B:Nat):Prf→Prop
 |.node _ ps ch bk=>(ch.length≤N∧bk.length≤N)∧((∀x∈ch,x.term.size≤B∧x.path.length≤B)∧(∀x∈bk,x.term.size≤B∧x.path.length≤B))∧Prf.oks N B ps
def Prf.oks(N B:Nat):List Prf→Prop
 |[]=>True
 |a :: r=>Prf.ok N B a∧Prf.oks N B r
end
theorem Prf.oks_iff{N B:Nat}:∀{ps:List Prf},Prf.oks N B ps↔∀p∈ps,p.ok N B
 |[]=>by simp[Prf.oks]
 |a :: r=>by
  rw[Prf.oks,Prf.oks_iff (ps:=r)];simp
mutual
theorem Prf.ok_mono{N B B':Nat}(h:B≤B'):∀p:Prf,p.ok N B→p.ok N B'
 |.node ix ps ch bk,hp=>by
  rw[Prf.ok] at hp ⊢;exact⟨hp.1,⟨fun x hx=>by have:=hp.2.1.1 x hx;omega,fun x hx=>by have:=hp.2.1.2 x hx;omega⟩,Prf.oks_mono h ps hp.2.2⟩
theorem Prf.oks_mono{N B B':Nat}(h:B≤B'):∀ps:List Prf,Prf.oks N B ps→Prf.oks N B' ps
 |[],_=>by rw[Prf.oks];trivial
 |a :: r,hp=>by
  rw[Prf.oks] at hp ⊢;exact⟨Prf.ok_mono h a hp.1,Prf.oks_mono h r hp.2⟩
end
end Lfc
namespace Go.Proofs.YtadjpadieljjlaaGreat
section
open Go.RowKit Go.Maps _root_.Lfc
def LkS(q:Nat→Prop)(w:World)(l:List Link)(v:Value):Prop:=∃A c,v=.slice A l.length c∧l.length≤c∧LinksP q w A l
theorem LkS.keep{q q':Nat→Prop}{w w':World}(hk:∀b,q b→b<w.heap.size→w'.heap[b]?=w.heap[b]?)(hs:w.heap.size≤w'.heap.size)(hq:∀b,b<w.heap.size→q b→q' b){l:List Link}{v:Value}(h:LkS q w l v):LkS q' w' l v:=by
 obtain⟨A,c,rfl,hc,hl⟩:=h;exact⟨A,c,rfl,hc,hl.keep hk hs hq⟩
mutual
def PrfP(q:Nat→Prop)(w:World):Prf→Value→Value→Value→Value→Prop
 |.node ix ps ch bk,v0,v1,v2,v3=>v0=.int .i64 ix∧(∃A c,v1=.slice A ps.length c∧ps.length≤c∧(ps≠[]→∃b o,A=some ⟨b,o,none⟩∧b<w.heap.size∧q b∧PrfsP q w b ps o))∧LkS q w ch v2∧LkS q w bk v3
def PrfsP(q:Nat→Prop)(w:World)(b:Nat):List Prf→Nat→Prop
 |[],_=>True
 |p :: r,o=>(∃v0 v1 v2 v3,w.cell? ⟨b,o,none⟩=some v0∧w.cell? ⟨b,o+1,none⟩=some v1∧w.cell? ⟨b,o+2,none⟩=some v2∧w.cell? ⟨b,o+3,none⟩=some v3∧PrfP q w p v0 v1 v2 v3)∧PrfsP q w b r (o+4)
end
mutual
theorem PrfP.keep{q q':Nat→Prop}{w w':World}(hk:∀b,q b→b<w.heap.size→w'.heap[b]?=w.heap[b]?)(hs:w.heap.size≤w'.heap.size)(hq:∀b,b<w.heap.size→q b→q' b):∀(p:Prf)(v0 v1 v2 v3:Value),PrfP q w p v0 v1 v2 v3→PrfP q' w' p v0 v1 v2 v3
 |.node ix ps ch bk,v0,v1,v2,v3,h=>by
  rw[PrfP] at h ⊢;obtain⟨h0,⟨A,c,h3,h4,h5⟩,h6,h7⟩:=h;refine⟨h0,⟨A,c,h3,h4,fun hne=>?_⟩,h6.keep hk hs hq,h7.keep hk hs hq⟩;obtain⟨b,o,hA,hlt,hqb,hts⟩:=h5 hne;exact⟨b,o,hA,Zl hlt hs,hq b hlt hqb,PrfsP.keep hk hs hq ps b o hlt hqb hts⟩
theorem PrfsP.keep{q q':Nat→Prop}{w w':World}(hk:∀b,q b→b<w.heap.size→w'.heap[b]?=w.heap[b]?)(hs:w.heap.size≤w'.heap.size)(hq:∀b,b<w.heap.size→q b→q' b):∀(ps:List Prf)(b o:Nat),b<w.heap.size→q b→PrfsP q w b ps o→PrfsP q' w' b ps o
 |[],_,_,_,_,_=>by rw[PrfsP];trivial
 |p :: r,b,o,hlt,hb,h=>by
  rw[PrfsP] at h ⊢;obtain⟨⟨v0,v1,v2,v3,c0,c1,c2,c3,ht⟩,hr⟩:=h;have hc:=fun j=>World.cell?_of_block (a:=⟨b,j,none⟩) (hk b hb hlt);exact⟨⟨v0,v1,v2,v3,(hc _).trans c0,(hc _).trans c1,(hc _).trans c2,(hc _).trans c3,PrfP.keep hk hs hq p _ _ _ _ ht⟩,PrfsP.keep hk hs hq r b (o+4) hlt hb hr⟩
end
theorem PrfsP.at_{q:Nat→Prop}{w:World}{b:Nat}:∀(ps:List Prf)(o i:Nat)(h:i<ps.length),PrfsP q w b ps o→∃v0 v1 v2 v3,w.cell? ⟨b,o+i*4,none⟩=some v0∧w.cell? ⟨b,o+i*4+1,none⟩=some v1∧w.cell? ⟨b,o+i*4+2,none⟩=some v2∧w.cell? ⟨b,o+i*4+3,none⟩=some v3∧PrfP q w ps[i] v0 v1 v2 v3
 |[],_,_,h,_=>by cases h
 |p :: r,o,i,hi,h=>by
  rw[PrfsP] at h;cases i with
  |zero=>simpa using h.1
  |succ i =>
   have:=PrfsP.at_ r (o+4) i (by simpa using hi) h.2;rw[show o+(i+1)*4=o+4+i*4 by omega];exact this
theorem PrfP.open_{q:Nat→Prop}{w:World}{p:Prf}{v0 v1 v2 v3:Value}(h:PrfP q w p v0 v1 v2 v3):∃ix ps ch bk A A1 A2 c c1 c2,p=.node ix ps ch bk∧v0=.int .i64 ix∧v1=.slice A (List.length ps) c∧v2=.slice A1 (List.length ch) c1∧v3=.slice A2 (List.length bk) c2:=by
 obtain⟨ix,ps,ch,bk⟩:=p;rw[PrfP] at h;obtain⟨h0,⟨A,c,h3,h4,h5⟩,⟨A1,c1,h6,_,_⟩,⟨A2,c2,h7,_,_⟩⟩:=h;exact⟨ix,ps,ch,bk,A,A1,A2,c,c1,c2,rfl,h0,h3,h6,h7⟩
theorem PrfP.parts{q:Nat→Prop}{w:World}{ix:Int}{ps:List Prf}{ch bk:List Link}{A A1 A2:Option Addr}{n n1 n2 c c1 c2:Nat}(h:PrfP q w (.node ix ps ch bk) (.int .i64 ix) (.slice A n c) (.slice A1 n1 c1) (.slice A2 n2 c2)) :
  ((n=ps.length∧n≤c)∧(n1=ch.length∧n1≤c1)∧(n2=bk.length∧n2≤c2))∧(ps≠[]→∃b o,A=some ⟨b,o,none⟩∧b<w.heap.size∧q b∧PrfsP q w b ps o)∧LinksP q w A1 ch∧LinksP q w A2 bk:=by
 rw[PrfP] at h;obtain⟨h0,⟨A',c',h3,h4,h5⟩,⟨A1',c1',h6,h61,h62⟩,⟨A2',c2',h7,h71,h72⟩⟩:=h;injection h3 with a1 a2 a3;injection h6 with a4 a5 a6;injection h7 with a7 a8 a9;subst a1 a2 a3 a4 a5 a6 a7 a8 a9;exact⟨⟨⟨rfl,h4⟩,⟨rfl,h61⟩,⟨rfl,h71⟩⟩,h5,h62,h72⟩
theorem PrfP.mk{q:Nat→Prop}{w:World}{ix:Int}{ps:List Prf}{ch bk:List Link}{A A1 A2:Option Addr}{c c1 c2:Nat}(h1:ps.length≤c)(h2:ch.length≤c1)(h3:bk.length≤c2)(hp:ps≠[]→∃b o,A=some ⟨b,o,none⟩∧b<w.heap.size∧q b∧PrfsP q w b ps o)(hl:LinksP q w A1 ch)(hm:LinksP q w A2 bk):PrfP q w (.node ix ps ch bk) (.int .i64 ix) (.slice A ps.length c) (.slice A1 ch.length c1) (.slice A2 bk.length c2):=by
 rw[PrfP];exact⟨rfl,⟨A,c,rfl,h1,hp⟩,⟨A1,c1,rfl,h2,hl⟩,⟨A2,c2,rfl,h3,hm⟩⟩
def PrRow(q:Nat→Prop)(w:World):List Prf→List Value→Prop
 |[],xs=>xs=[]
 |p :: r,xs=>∃v0 v1 v2 v3 ys,xs=v0 :: v1 :: v2 :: v3 :: ys∧PrfP q w p v0 v1 v2 v3∧PrRow q w r ys
theorem PrRow.keep{q q':Nat→Prop}{w w':World}(hk:∀b,q b→b<w.heap.size→w'.heap[b]?=w.heap[b]?)(hs:w.heap.size≤w'.heap.size)(hq:∀b,b<w.heap.size→q b→q' b):∀{ps:List Prf}{xs:List Value},PrRow q w ps xs→PrRow q' w' ps xs
 |[],xs,h=>by rw[PrRow] at h ⊢;exact h
 |p :: r,xs,h=>by
  rw[PrRow] at h ⊢;obtain⟨v0,v1,v2,v3,ys,rfl,ht,hr⟩:=h;exact⟨v0,v1,v2,v3,ys,rfl,PrfP.keep hk hs hq p _ _ _ _ ht,hr.keep hk hs hq⟩
theorem PrRow.lie{q:Nat→Prop}{w:World}{b:Nat}:∀{ps:List Prf}{xs:List Value}{o:Nat},PrRow q w ps xs→(∀j u,xs[j]?=some u→w.cell? ⟨b,o+j,none⟩=some u)→PrfsP q w b ps o
 |[],_,_,_,_=>by rw[PrfsP];trivial
 |p :: r,xs,o,h,hc=>by
  rw[PrRow] at h;obtain⟨v0,v1,v2,v3,ys,rfl,ht,hr⟩:=h;rw[PrfsP];refine⟨⟨v0,v1,v2,v3,hc 0 _ rfl,hc 1 _ rfl,hc 2 _ rfl,hc 3 _ rfl,ht⟩,hr.lie fun j u hj=>?_⟩;have:=hc (j+4) u (by simpa using hj);rw[show o+4+j=o+(j+4) by omega];exact this
theorem PrRow.of{q:Nat→Prop}{w:World}{b:Nat}:∀{ps:List Prf}{o:Nat},PrfsP q w b ps o→∃xs,PrRow q w ps xs∧xs.length=ps.length*4∧(∀j u,xs[j]?=some u→w.cell? ⟨b,o+j,none⟩=some u)∧(∀u∈xs,u.oneCell'=true)
 |[],o,_=>⟨[],by rw[PrRow],rfl,(fun j u h=>by simp at h),(fun u h=>by cases h)⟩
 |p :: r,o,h=>by
  rw[PrfsP] at h;obtain⟨⟨v0,v1,v2,v3,c0,c1,c2,c3,hp⟩,hr⟩:=h;obtain⟨xs,h1,h2,h3,h4⟩:=PrRow.of hr;have ho:=hp.open_;obtain⟨ix,ps,ch,bk,A,A1,A2,d,d1,d2,rfl,rfl,rfl,rfl,rfl⟩:=ho;refine⟨_ :: _ :: _ :: _ :: xs,by rw[PrRow];exact⟨_,_,_,_,xs,rfl,hp,h1⟩,by simp[h2];omega,fun j u hj=>?_,fun u hu=>?_⟩
  ·match j with
   |0=>simp at hj;rw[←hj];exact c0
   |1=>simp at hj;rw[←hj];exact c1
   |2=>simp at hj;rw[←hj];exact c2
   |3=>simp at hj;rw[←hj];exact c3
   |j+4 =>
    have:=h3 j u (by simpa using hj);rw[show o+(j+4)=o+4+j by omega];exact this
  simp only[List.mem_cons] at hu;rcases hu with rfl | rfl | rfl | rfl | hu
  ·rfl
  ·rfl
  ·rfl
  ·rfl
  exact h4 u hu
theorem LkO.toS{q:Nat→Prop}{w:World}{v:Value}(h:ChV q w v):∃l:List Link,LkS q w l v∧l.length≤5000∧∀x∈l,x.term.size≤1000∧x.path.length≤1000:=by
 obtain⟨A,n,c,rfl,hn,hc,l,rfl,hl,hz⟩:=h;exact⟨l,⟨A,c,rfl,hc,hl⟩,hn,hz⟩
mutual
theorem PfP.toPrf{q:Nat→Prop}{w:World}:∀(p:Pf)(v0 v1 v2 v3:Value),PfP q w p v0 v1 v2 v3→∃x:Prf,PrfP q w x v0 v1 v2 v3∧x.size=p.size∧x.ok 5000 1000
 |.node ps,v0,v1,v2,v3,h=>by
  rw[PfP] at h;obtain⟨⟨ix,rfl⟩,⟨A,c,rfl,hc,hp⟩,h2,h3⟩:=h;obtain⟨ch,hch,hcn,hcz⟩:=LkO.toS h2;obtain⟨bk,hbk,hbn,hbz⟩:=LkO.toS h3;by_cases hne:ps=[]
  ·subst hne;refine⟨.node ix [] ch bk,?_,by simp[Prf.size,Pf.size,Prf.sizes,Pf.sizes],by rw[Prf.ok];exact⟨⟨hcn,hbn⟩,⟨hcz,hbz⟩,by rw[Prf.oks];trivial⟩⟩;rw[PrfP];exact⟨rfl,⟨A,c,rfl,hc,fun h=>absurd rfl h⟩,hch,hbk⟩
  obtain⟨b,o,hA,hlt,hqb,hps⟩:=hp hne;obtain⟨xs,hx,hl,hz,hk⟩:=PfsP.toPrfs ps b o hps;refine⟨.node ix xs ch bk,?_,by rw[Prf.size,Pf.size,hz],by rw[Prf.ok];exact⟨⟨hcn,hbn⟩,⟨hcz,hbz⟩,hk⟩⟩;rw[PrfP];exact⟨rfl,⟨A,c,by rw[hl],by rw[hl];exact hc,fun _=>⟨b,o,hA,hlt,hqb,hx⟩⟩,hch,hbk⟩
theorem PfsP.toPrfs{q:Nat→Prop}{w:World}:∀(ps:List Pf)(b o:Nat),PfsP q w b ps o→∃xs:List Prf,PrfsP q w b xs o∧xs.length=ps.length∧Prf.sizes xs=Pf.sizes ps∧Prf.oks 5000 1000 xs
 |[],b,o,_=>⟨[],by rw[PrfsP];trivial,rfl,by simp[Prf.sizes,Pf.sizes],by rw[Prf.oks];trivial⟩
 |p :: r,b,o,h=>by
  rw[PfsP] at h;obtain⟨⟨v0,v1,v2,v3,c0,c1,c2,c3,hp⟩,hr⟩:=h;obtain⟨x,hx,hz,hk⟩:=PfP.toPrf p v0 v1 v2 v3 hp;obtain⟨xs,h1,h2,h3,h4⟩:=PfsP.toPrfs r b (o+4) hr;exact⟨x :: xs,by rw[PrfsP];exact⟨⟨v0,v1,v2,v3,c0,c1,c2,c3,hx⟩,h1⟩,by rw[List.length_cons,List.length_cons,h2],by rw[Prf.sizes,Pf.sizes,hz,h3],by rw[Prf.oks];exact⟨hk,h4⟩⟩
end
structure QuP(q:Nat→Prop)(w:World)(fs:List Fact)(F:Option Addr)(o p:Lfc.Ord)(vo vp:Value)(ts us:List Raw)(L R:Option Addr)(cl cr:Nat)(ks:List Int)(A0:Option Addr):Prop where
 fl:fs.length≤3
 rl:∀f∈fs,f.rel=1∨f.rel=2∨f.rel=3
 ff:FactsP q w F fs
 os:o.size≤20
 ps:p.size≤20
 vo:OrdVP q w o vo
 vp:OrdVP q w p vp
 n1:1≤ts.length
 n:ts.length≤3
 eq:us.length=ts.length
 l:L=none→ts.length=0∧cl=0
 r:R=none→us.length=0∧cr=0
 tt:TreesAtP q w L ts
 uu:TreesAtP q w R us
 kl:ks.length≤5
 kk:IntsP q w A0 ks
 zt:∀t∈ts,t.size≤40
 zu:∀t∈us,good t
 gf:∀f∈fs,f.l.size≤40∧(good f.l∨f.l∈ts)∧good f.r
def AskAns(w:World)(T:Nat)(e:Ending)(w':World):Prop :=
 (∃(fs:List Fact)(F:Option Addr)(f0:Nat)(rel:Int)(o p:Lfc.Ord)(k1 a1 k2 a2:Int)(A1 A2:Option Addr)(l1 c1 l2 c2:Nat)(ts us:List Raw)(L R:Option Addr)(cl cr:Nat)(ks:List Int)(A0:Option Addr)(c0:Nat),
  e=.returned (.agg #[.slice F fs.length f0,.int .i64 rel,.int .i64 k1,.int .i64 a1,.slice A1 l1 c1,.int .i64 k2,.int .i64 a2,.slice A2 l2 c2,.slice L ts.length cl,.slice R us.length cr,.slice A0 ks.length c0]) ∧
  (rel=1∨rel=2∨rel=3)∧(fs.length≤f0∧(F=none→f0=0))∧QuP (fun b=>w.heap.size≤b) w' fs F o p (.agg #[.int .i64 k1,.int .i64 a1,.slice A1 l1 c1]) (.agg #[.int .i64 k2,.int .i64 a2,.slice A2 l2 c2]) ts us L R cl cr ks A0)∧TapeI T w'∧Oth T w w'
def FRow(q:Nat→Prop)(w:World):List Fact→List Value→Prop
 |[],xs=>xs=[]
 |f :: r,xs=>∃k n p ls A c k' n' p' rs A' c' ys,xs=.int .i64 k :: S n :: .int .i64 p :: .slice A (List.length ls) c :: .int .i64 f.rel :: .int .i64 k' :: S n' :: .int .i64 p' :: .slice A' (List.length rs) c' :: ys∧(f.l=.node k n p ls∧f.r=.node k' n' p' rs) ∧
   (TreeVP q w f.l (.agg #[.int .i64 k,S n,.int .i64 p,.slice A (List.length ls) c])∧TreeVP q w f.r (.agg #[.int .i64 k',S n',.int .i64 p',.slice A' (List.length rs) c']))∧FRow q w r ys
theorem FRow.keep{q q':Nat→Prop}{w w':World}(hk:∀b,q b→b<w.heap.size→w'.heap[b]?=w.heap[b]?)(hs:w.heap.size≤w'.heap.size)(hq:∀b,b<w.heap.size→q b→q' b):∀{fs:List Fact}{xs:List Value},FRow q w fs xs→FRow q' w' fs xs
 |[],xs,h=>by rw[FRow] at h ⊢;exact h
 |f :: r,xs,h=>by
  rw[FRow] at h ⊢;obtain⟨k,n,p,ls,A,c,k',n',p',rs,A',c',ys,hx,he,⟨h1,h2⟩,hr⟩:=h;exact⟨k,n,p,ls,A,c,k',n',p',rs,A',c',ys,hx,he,⟨h1.keep hk hs hq,h2.keep hk hs hq⟩,hr.keep hk hs hq⟩
theorem FRow.append{q:Nat→Prop}{w:World}{gs:List Fact}{zs:List Value}(hz:FRow q w gs zs):∀{fs:List Fact}{xs:List Value},FRow q w fs xs→FRow q w (fs++gs) (xs++zs)
 |[],xs,h=>by rw[FRow] at h;subst h;exact hz
 |f :: r,xs,h=>by
  rw[FRow] at h;obtain⟨k,n,p,ls,A,c,k',n',p',rs,A',c',ys,rfl,he,h12,hr⟩:=h;rw[List.cons_append,FRow];exact⟨k,n,p,ls,A,c,k',n',p',rs,A',c',ys++zs,by simp,he,h12,FRow.append hz hr⟩
theorem FRow.lie{q:Nat→Prop}{w:World}{b:Nat}:∀{fs:List Fact}{xs:List Value}{o:Nat},FRow q w fs xs→(∀j u,xs[j]?=some u→w.cell? ⟨b,o+j,none⟩=some u)→∀i(h:i<fs.length),FactO q w b (o+i*9) fs[i]
 |[],_,_,_,_,i,h=>by cases h
 |f :: r,xs,o,h,hc,i,hi=>by
  rw[FRow] at h;obtain⟨k,n,p,ls,A,c,k',n',p',rs,A',c',ys,rfl,⟨e1,e2⟩,⟨h1,h2⟩,hr⟩:=h;cases i with
  |zero=>exact⟨k,n,p,ls,A,c,k',n',p',rs,A',c',e1,e2,⟨by simpa using hc 0 _ rfl,by simpa using hc 1 _ rfl,by simpa using hc 2 _ rfl,by simpa using hc 3 _ rfl⟩,by simpa using hc 4 _ rfl,⟨by simpa using hc 5 _ rfl,by simpa using hc 6 _ rfl,by simpa using hc 7 _ rfl,by simpa using hc 8 _ rfl⟩,h1,h2⟩
  |succ i =>
   have:=FRow.lie (o:=o+9) hr (fun j u hj=>by
    have:=hc (j+9) u (by simpa using hj);rw[show o+9+j=o+(j+9) by omega];exact this) i (by simpa using hi)
   rw[show o+(i+1)*9=o+9+i*9 by omega];exact this
theorem factsP_own{q:Nat→Prop}{w:World}{base:Nat}{F:Option Addr}{n c:Nat}{xs:List Value}{fs:List Fact}(hl:fs.length=n)(h:w.ownsRow base 70 9 (.slice F n c) n xs)(hq:∀b,base≤b→q b)(hr:FRow q w fs xs):FactsP q w F fs:=fun hne=>by
 rcases h.2 with⟨_,e0⟩ | ⟨g,cap,cur,hv,hbg,hg,_⟩
 ·exact absurd (Zz (hl.trans e0)) hne
 injection hv with e1 _ _;refine⟨g,0,e1,zL hg,hq g hbg,hr.lie (fun j u hj=>?_)⟩;subst e1;have:=h.cells (g:=g) rfl j u hj;rw[ocell_add] at this;simpa using this
theorem treesP_own{q:Nat→Prop}{w:World}{base:Nat}{A:Option Addr}{n c:Nat}{xs:List Value}{ts:List Raw}(hl:ts.length=n)(h:w.ownsRow base 51 4 (.slice A n c) n xs)(hq:∀b,base≤b→q b)(hr:RowP q w ts xs):TreesAtP q w A ts∧(A=none→n=0∧c=0):=by
 rcases h.2 with⟨hv,e0⟩ | ⟨g,cap,cur,hv,hbg,hg,_⟩
 ·injection hv with e1 _ e3;exact⟨fun hne=>absurd (Zz (hl.trans e0)) hne,fun _=>⟨e0,e3⟩⟩
 injection hv with e1 _ e3;subst e1 e3;exact⟨fun _=>⟨g,0,rfl,zL hg,hq g hbg,hr.lie (own_cells h)⟩,fun e=>by cases e⟩
structure As2(w wB:World)(T Qb:Nat)(rel:Int)(A0:Option Addr)(nk c0:Nat)(ks:List Int)(n:Nat)(ts us:List Raw)(AL:Option Addr)(cl:Nat)(AR:Option Addr)(cr:Nat)(fs:List Fact)(nf:Nat)(F:Option Addr)(f0:Nat)(W:World):Prop where
 blk:W.heap[Qb]?=some (.cells #[.slice F nf f0,.int .i64 rel,.int .i64 0,.int .i64 0,.slice none 0 0,.int .i64 0,.int .i64 0,.slice none 0 0,.slice AL n cl,.slice AR n cr,.slice A0 nk c0] 29 (0,0))
 lf:fs.length=nf
 L:TreesAtP (fun b=>w.heap.size<b∧b≠Qb∧(Value.slice F nf f0).ownBlock≠some b) W AL ts
 R:TreesAtP (fun b=>w.heap.size<b∧b≠Qb∧(Value.slice F nf f0).ownBlock≠some b) W AR us
 row:∃xF,W.ownsRow wB.heap.size 70 9 (.slice F nf f0) nf xF∧FRow (fun b=>w.heap.size<b∧b≠Qb∧(Value.slice F nf f0).ownBlock≠some b) W fs xF
 ks:IntsP (fun b=>w.heap.size<b∧b≠Qb∧(Value.slice F nf f0).ownBlock≠some b) W A0 ks
 tape:TapeI T W
 oth:Oth T w W
 size:wB.heap.size≤W.heap.size
 gf:∀f∈fs,(f.rel=1∨f.rel=2∨f.rel=3)∧f.l.size≤40∧(good f.l∨f.l∈ts)∧good f.r
 res:W.heap[w.heap.size]?=some (.cells #[.slice none 0 0,.int .i64 0,.int .i64 0,.int .i64 0,.slice none 0 0,.int .i64 0,.int .i64 0,.slice none 0 0,.slice none 0 0,.slice none 0 0,.slice none 0 0] 29 (0,0))
theorem As1.two{w w3 W:World}{T Qb nk c0 k cl cr:Nat}{rel:Int}{A0 AL AR:Option Addr}{ks:List Int}{ts us:List Raw}(h:As1 w w3 T Qb rel A0 nk c0 ks k ts us AL cl AR cr W)(hQ:w.heap.size<Qb)(hQ3:Qb<w3.heap.size) :
  As2 w W T Qb rel A0 nk c0 ks k ts us AL cl AR cr [] 0 none 0 W∧(AL=none→k=0∧cl=0)∧(AR=none→k=0∧cr=0):=by
 obtain⟨xL,xR,h1,h2,h3,h4⟩:=h.rows;have hnil:∀b,(Value.slice none 0 0).ownBlock≠some b:=fun b e=>by simp[Value.ownBlock] at e
 have hL:=treesP_own (q:=fun b=>w.heap.size<b∧b≠Qb∧(Value.slice none 0 0).ownBlock≠some b) h.lt h1 (fun b hb=>⟨by omega,by omega,hnil b⟩) (h3.keep (fun _ _ _=>rfl) (zN _) (fun b _ hb=>⟨by have:=hb.1;omega,by have:=hb.1;omega,hnil b⟩));have hR:=treesP_own (q:=fun b=>w.heap.size<b∧b≠Qb∧(Value.slice none 0 0).ownBlock≠some b) h.lu h2 (fun b hb=>⟨by omega,by omega,hnil b⟩) (h4.keep (fun _ _ _=>rfl) (zN _) (fun b _ hb=>⟨by have:=hb.1;omega,by have:=hb.1;omega,hnil b⟩));exact⟨⟨h.blk,rfl,hL.1,hR.1,⟨[],World.ownsRow_nil W W.heap.size _ 9,by rw[FRow]⟩,h.ks.keep (fun _ _ _=>rfl) (zN _) (fun b _ hb=>⟨hb.1,hb.2.2,hnil b⟩),h.tape,h.oth,zN _,(fun f hf=>by cases hf),h.res⟩,hL.2,hR.2⟩
section
variable {w wB W W':World} {T Qb nk c0 n cl cr nf f0:Nat} {rel:Int} {A0 AL AR F:Option Addr} {ks:List Int} {ts us:List Raw} {fs:List Fact}
theorem As2.othT(h:As2 w wB T Qb rel A0 nk c0 ks n ts us AL cl AR cr fs nf F f0 W)(hT:T<w.heap.size)(hQ:w.heap.size<Qb)(hB:w.heap.size≤wB.heap.size)(ho:Oth T W W')(ht:TapeI T W'):As2 w wB T Qb rel A0 nk c0 ks n ts us AL cl AR cr fs nf F f0 W':=by
 obtain⟨xF,h1,h2⟩:=h.row;have hk:∀b,(w.heap.size<b∧b≠Qb∧(Value.slice F nf f0).ownBlock≠some b)→b<W.heap.size→W'.heap[b]?=W.heap[b]?:=fun b hb hlt=>ho.block b hlt (fun e=>by have:=zO e;omega);exact⟨ho.heap h.blk (by omega),h.lf,h.L.keep hk ho.size (fun _ _ h=>h),h.R.keep hk ho.size (fun _ _ h=>h),⟨xF,ownsRow_keep h1 (fun g hg=>ho.block g (h1.lt g hg).2 (fun e=>by have:=zO e;have:=(h1.lt g hg).1;omega)),h2.keep hk ho.size (fun _ _ h=>h)⟩,h.ks.keep hk ho.size (fun _ _ h=>h),ht,h.oth.trans ho,zR h.size ho.size,h.gf,ho.heap h.res (by omega)⟩
theorem As2.push{w9 w10:World}{f:Fact}{k p k' p':Int}{n1 n2:List UInt8}{ls rs:List Raw}{A A' F':Option Addr}{c c' f0':Nat}{xF:List Value}{o:Obj}(h:As2 w wB T Qb rel A0 nk c0 ks n ts us AL cl AR cr fs nf F f0 W)(hT:T<w.heap.size)(hQ:w.heap.size<Qb)(hQB:Qb<wB.heap.size)
  (hown:W.ownsRow wB.heap.size 70 9 (.slice F nf f0) nf xF) (hrow:FRow (fun b=>w.heap.size<b∧b≠Qb∧(Value.slice F nf f0).ownBlock≠some b) W fs xF) (he:f.l=.node k n1 p ls∧f.r=.node k' n2 p' rs)
  (hl:TreeVP (fun b=>w.heap.size<b∧b≠Qb∧(Value.slice F nf f0).ownBlock≠some b) W f.l (.agg #[.int .i64 k,S n1,.int .i64 p,.slice A (List.length ls) c])) (hr:TreeVP (fun b=>w.heap.size<b∧b≠Qb∧(Value.slice F nf f0).ownBlock≠some b) W f.r (.agg #[.int .i64 k',S n2,.int .i64 p',.slice A' (List.length rs) c']))
  (hg:(f.rel=1∨f.rel=2∨f.rel=3)∧f.l.size≤40∧(good f.l∨f.l∈ts)∧good f.r)
  (hown':w10.ownsRow wB.heap.size 70 9 (.slice F' (nf+1) f0') (nf+1) (xF++[.int .i64 k,S n1,.int .i64 p,.slice A (List.length ls) c,.int .i64 f.rel,.int .i64 k',S n2,.int .i64 p',.slice A' (List.length rs) c'])) (hgr:(W.alloc o).grownBy w10 (Value.slice F nf f0).ownBlock) (hloc:(Value.slice F' (nf+1) f0').ownBlock=(Value.slice F nf f0).ownBlock∨(Value.slice F' (nf+1) f0').ownBlock=some (W.heap.size+1)) :
  w10.heap[Qb]?=W.heap[Qb]?∧As2 w wB T Qb rel A0 nk c0 ks n ts us AL cl AR cr (fs++[f]) (nf+1) F' f0' (w10.setCell ⟨Qb,0,none⟩ (.slice F' (nf+1) f0')):=by
 have hs10:W.heap.size+1≤w10.heap.size:=by have:=hgr.size;simpa using this
 have hsz:=h.size;have hw:=h.oth.size;have hlt:∀b,(Value.slice F nf f0).ownBlock=some b→wB.heap.size≤b∧b<W.heap.size:=fun b e=>hown.lt b e;have k10:∀b,b<W.heap.size→(Value.slice F nf f0).ownBlock≠some b→w10.heap[b]?=W.heap[b]?:=fun b hb hne=>(hgr.block b (by simp;omega) (fun e=>hne e.symm)).trans (zA _ _ _ hb);have hQW:Qb<W.heap.size:=zL h.blk;have e10:w10.heap[Qb]?=W.heap[Qb]?:=k10 Qb hQW (fun e=>by have:=(hlt _ e).1;omega);have ho:Oth Qb w10 (w10.setCell ⟨Qb,0,none⟩ (.slice F' (nf+1) f0')):=Oth.set _ _;have hso:=ho.size;have hk:∀b,(w.heap.size<b∧b≠Qb∧(Value.slice F nf f0).ownBlock≠some b)→b<W.heap.size→(w10.setCell ⟨Qb,0,none⟩ (.slice F' (nf+1) f0')).heap[b]?=W.heap[b]?:=fun b hb hlt=>(ho.block b (by omega) (fun e=>hb.2.1 (zO e))).trans (k10 b hlt hb.2.2);have hq:∀b,b<W.heap.size→(w.heap.size<b∧b≠Qb∧(Value.slice F nf f0).ownBlock≠some b)→(w.heap.size<b∧b≠Qb∧(Value.slice F' (nf+1) f0').ownBlock≠some b):=fun b hlt hb=>⟨hb.1,hb.2.1,fun e=>by
  rcases hloc with e2 | e2
  ·exact hb.2.2 (e2 ▸ e)
  rw[e2] at e;have:=zO e;omega⟩
 have hss:W.heap.size≤(w10.setCell ⟨Qb,0,none⟩ (.slice F' (nf+1) f0')).heap.size:=by omega
 have hold:∀b,b<wB.heap.size→b≠Qb→(w10.setCell ⟨Qb,0,none⟩ (.slice F' (nf+1) f0')).heap[b]?=W.heap[b]?:=fun b hb hne=>(ho.block b (by omega) (fun e=>hne (zO e))).trans (k10 b (by omega) (fun e=>by have:=(hlt _ e).1;omega));refine⟨e10,⟨?_,by rw[Zq,h.lf];rfl,h.L.keep hk hss hq,h.R.keep hk hss hq,⟨_,ownsRow_keep hown' (fun g hg=>ho.block g (hown'.lt g hg).2 (fun e=>by have:=zO e;have:=(hown'.lt g hg).1;omega)),FRow.append (gs:=[f]) (zs:=[.int .i64 k,S n1,.int .i64 p,.slice A (List.length ls) c,.int .i64 f.rel,.int .i64 k',S n2,.int .i64 p',.slice A' (List.length rs) c']) (by rw[FRow];exact⟨k,n1,p,ls,A,c,k',n2,p',rs,A',c',[],rfl,he,⟨hl.keep hk hss hq,hr.keep hk hss hq⟩,by rw[FRow]⟩) (hrow.keep hk hss hq)⟩,h.ks.keep hk hss hq,h.tape.like (fun b hb=>hold b (by omega) (by omega)),?_,by omega,fun g hg2=>?_,(hold _ (by omega) (by omega)).trans h.res⟩⟩
 ·have e11:=e10.trans h.blk;simp[World.setCell,zM,e11]
 ·exact⟨ho.os.trans (hgr.os.trans h.oth.os),ho.tape.trans (hgr.tape.trans h.oth.tape),ho.output.trans (hgr.output.trans h.oth.output),by omega,fun b hb hn=>(hold b (by omega) (by omega)).trans (h.oth.block b hb hn)⟩
 rcases List.mem_append.1 hg2 with h1 | h1
 ·exact h.gf g h1
 rw[List.mem_singleton] at h1;subst h1;exact hg
end
def FVar(w wr:World)(T Qb:Nat)(vF:Value)(ts:List Raw)(g:Nat)(wx:World):Prop:=∃(f:Fact)(k:Int)(n:List UInt8)(p:Int)(ls:List Raw)(A:Option Addr)(c:Nat)(k':Int)(n':List UInt8)(p':Int)(rs:List Raw)(A':Option Addr)(c':Nat),
 wr.heap.size≤g∧(f.l=.node k n p ls∧f.r=.node k' n' p' rs)∧wx.heap[g]?=some (.cells #[.int .i64 k,S n,.int .i64 p,.slice A (List.length ls) c,.int .i64 f.rel,.int .i64 k',S n',.int .i64 p',.slice A' (List.length rs) c'] 70 (0,0)) ∧
 (TreeVP (fun b=>(w.heap.size<b∧b≠Qb∧vF.ownBlock≠some b)∧b≠g) wx f.l (.agg #[.int .i64 k,S n,.int .i64 p,.slice A (List.length ls) c])∧TreeVP (fun b=>(w.heap.size<b∧b≠Qb∧vF.ownBlock≠some b)∧b≠g) wx f.r (.agg #[.int .i64 k',S n',.int .i64 p',.slice A' (List.length rs) c'])) ∧
 ((f.rel=1∨f.rel=2∨f.rel=3)∧f.l.size≤40∧(good f.l∨f.l∈ts)∧good f.r)∧Oth T wr wx∧TapeI T wx
theorem FVar.othT{w wr wx wy:World}{T Qb g:Nat}{vF:Value}{ts:List Raw}(h:FVar w wr T Qb vF ts g wx)(hT:T<w.heap.size)(hw:w.heap.size≤wr.heap.size)(ho:Oth T wx wy)(ht:TapeI T wy):FVar w wr T Qb vF ts g wy:=by
 obtain⟨f,k,n,p,ls,A,c,k',n',p',rs,A',c',hg,he,hq,⟨h1,h2⟩,hgood,ho1,ht1⟩:=h;have hk:∀b,((w.heap.size<b∧b≠Qb∧vF.ownBlock≠some b)∧b≠g)→b<wx.heap.size→wy.heap[b]?=wx.heap[b]?:=fun b hb hlt=>ho.block b hlt (fun e=>by have:=zO e;omega);exact⟨f,k,n,p,ls,A,c,k',n',p',rs,A',c',hg,he,ho.heap hq (by omega),⟨h1.keep hk ho.size (fun _ _ h=>h),h2.keep hk ho.size (fun _ _ h=>h)⟩,hgood,ho1.trans ho,ht⟩
theorem rel_cell{W:World}{g r:Nat}(h:W.heap[g]?=some (.cells #[.int .i64 1,.int .i64 2,.int .i64 3] 3 (0,0)))(hr:r<3):W.cell? ⟨g,r,none⟩=some (.int .i64 ((r:Int)+1)):=by
 match r,hr with
 |0,_=>exact zC h 0
 |1,_=>exact zC h 1
 |2,_=>exact zC h 2
theorem tree_elem{w wr:World}{T:Nat}{q:Nat→Prop}{A:Option Addr}{ts:List Raw}{i:Nat}(hT:T<w.heap.size)(hi:i<ts.length)(h:TreesAtP q wr A ts)(hq:∀b,q b→b≠T) :
  ∃b o kk nn pp ls B c,A=some ⟨b,o,none⟩∧(∀W:World,Oth T wr W→W.cell? ⟨b,o+i*4,none⟩=some (.int .i64 kk)∧W.cell? ⟨b,o+i*4+1,none⟩=some (S nn)∧W.cell? ⟨b,o+i*4+2,none⟩=some (.int .i64 pp)∧W.cell? ⟨b,o+i*4+3,none⟩=some (.slice B (List.length ls) c))∧Raw.node kk nn pp ls∈ts∧TreeVP q wr (.node kk nn pp ls) (.agg #[.int .i64 kk,S nn,.int .i64 pp,.slice B (List.length ls) c]):=by
 obtain⟨b,o,hA,hlt,hqb,hts⟩:=h (by intro h0;rw[h0] at hi;simp at hi);obtain⟨v0,v1,v2,v3,h0,h1,h2,h3,hP⟩:=treesP_at ts o i hi hts;cases ht:ts[i] with
 |node k n p us =>
  have hP':=hP;rw[ht,TreeP] at hP;obtain⟨rfl,rfl,_,rfl,B,c,rfl,_⟩:=hP;refine⟨b,o,k,n,p,us,B,c,hA,fun W hW=>?_,ht ▸ Ze hi,⟨_,_,_,_,rfl,by rw[←ht];exact hP'⟩⟩;have hc:=fun j=>hW.cell (p:=⟨b,j,none⟩) hlt (hq b hqb);exact⟨(hc _).trans h0,(hc _).trans h1,(hc _).trans h2,(hc _).trans h3⟩
end
section
open Go.RowKit Go.Maps _root_.Lfc
theorem factInfo:(Tryz.prog.info? 70).map (fun i=>(i.zero,i.size,i.bytes))=some (some (.agg #[.int .i64 0,S [],.int .i64 0,.slice none 0 0,.int .i64 0,.int .i64 0,S [],.int .i64 0,.slice none 0 0]),9,120):=by kernel_rfl
theorem que_size:(Tryz.prog.info? 29).map (·.size)=some 11:=by kernel_rfl
theorem results_que{fn:Func}{p:Tmp}(h:fn.results=#[.cell p 29])(tmps:Array Value)(w:World)(g:Nat)(v0 v1 v2 v3 v4 v5 v6 v7 v8 v9 v10:Value)(hp:tmps.getD p undef=.pointer (some ⟨g,0,none⟩))(hg:w.heap[g]?=some (.cells #[v0,v1,v2,v3,v4,v5,v6,v7,v8,v9,v10] 29 (0,0))) :
  (results fn tmps).run Tryz.prog w=.ok (.agg #[v0,v1,v2,v3,v4,v5,v6,v7,v8,v9,v10]) w :=
 results_cell_row h tmps w g _ _ _ _ hp hg Tryz.underlying29 rfl que_size
theorem cells9q{W:World}{g:Nat}{v0 v1 v2 v3 v4 v5 v6 v7 v8:Value}{t:TypeId}(h:W.heap[g]?=some (.cells #[v0,v1,v2,v3,v4,v5,v6,v7,v8] t (0,0))):W.cell? ⟨g,0,none⟩=some v0∧W.cell? ⟨g,1,none⟩=some v1∧W.cell? ⟨g,2,none⟩=some v2∧W.cell? ⟨g,3,none⟩=some v3∧W.cell? ⟨g,4,none⟩=some v4∧W.cell? ⟨g,5,none⟩=some v5∧W.cell? ⟨g,6,none⟩=some v6∧W.cell? ⟨g,7,none⟩=some v7∧W.cell? ⟨g,8,none⟩=some v8:=⟨zC h 0,zC h 1,zC h 2,zC h 3,zC h 4,zC h 5,zC h 6,zC h 7,zC h 8⟩
theorem cells11q{W:World}{g:Nat}{v0 v1 v2 v3 v4 v5 v6 v7 v8 v9 v10:Value}{t:TypeId}(h:W.heap[g]?=some (.cells #[v0,v1,v2,v3,v4,v5,v6,v7,v8,v9,v10] t (0,0))):W.cell? ⟨g,0,none⟩=some v0∧W.cell? ⟨g,1,none⟩=some v1∧W.cell? ⟨g,2,none⟩=some v2∧W.cell? ⟨g,3,none⟩=some v3∧W.cell? ⟨g,4,none⟩=some v4∧W.cell? ⟨g,5,none⟩=some v5∧W.cell? ⟨g,6,none⟩=some v6∧W.cell? ⟨g,7,none⟩=some v7∧W.cell? ⟨g,8,none⟩=some v8∧W.cell? ⟨g,9,none⟩=some v9∧W.cell? ⟨g,10,none⟩=some v10:=⟨zC h 0,zC h 1,zC h 2,zC h 3,zC h 4,zC h 5,zC h 6,zC h 7,zC h 8,zC h 9,zC h 10⟩
theorem oneCell9{k p r k' p':Int}{n n':List UInt8}{A A':Option Addr}{l c l' c':Nat}:∀u∈[Value.int .i64 k,S n,.int .i64 p,.slice A l c,.int .i64 r,.int .i64 k',S n',.int .i64 p',.slice A' l' c'],u.oneCell'=true:=by
 intro u hu;simp only[List.mem_cons,List.not_mem_nil,or_false] at hu;rcases hu with rfl | rfl | rfl | rfl | rfl | rfl | rfl | rfl | rfl <;> rfl
section
variable {w wr wx:World} {T Qb g:Nat} {vF:Value} {ts:List Raw}
theorem FVar.tape(h:FVar w wr T Qb vF ts g wx):TapeI T wx:=by obtain⟨f,k,n,p,ls,A,c,k',n',p',rs,A',c',hg,he,hq,h12,hgood,ho1,ht1⟩:=h;exact ht1
theorem FVar.oth(h:FVar w wr T Qb vF ts g wx):Oth T wr wx:=by obtain⟨f,k,n,p,ls,A,c,k',n',p',rs,A',c',hg,he,hq,h12,hgood,ho1,ht1⟩:=h;exact ho1
theorem FVar.set{w2 s:World}{f:Fact}{k p k' p':Int}{n n':List UInt8}{ls rs:List Raw}{A A':Option Addr}{c c':Nat}(h:FVar w wr T Qb vF ts g wx)(hT:T<wr.heap.size)(ho:Oth T wx w2)(ht:TapeI T w2)(hs:Oth g w2 s)(he:f.l=.node k n p ls∧f.r=.node k' n' p' rs)
  (hblk:s.heap[g]?=some (.cells #[.int .i64 k,S n,.int .i64 p,.slice A (List.length ls) c,.int .i64 f.rel,.int .i64 k',S n',.int .i64 p',.slice A' (List.length rs) c'] 70 (0,0)))
  (hl:TreeVP (fun b=>(w.heap.size<b∧b≠Qb∧vF.ownBlock≠some b)∧b≠g) w2 f.l (.agg #[.int .i64 k,S n,.int .i64 p,.slice A (List.length ls) c]))
  (hr:TreeVP (fun b=>(w.heap.size<b∧b≠Qb∧vF.ownBlock≠some b)∧b≠g) w2 f.r (.agg #[.int .i64 k',S n',.int .i64 p',.slice A' (List.length rs) c']))
  (hg:(f.rel=1∨f.rel=2∨f.rel=3)∧f.l.size≤40∧(good f.l∨f.l∈ts)∧good f.r):FVar w wr T Qb vF ts g s:=by
 obtain⟨f0,k0,n0,p0,ls0,A0,c0,k0',n0',p0',rs0,A0',c0',hgw,he0,hq,h12,hgood,ho1,ht1⟩:=h;have hk:∀b,((w.heap.size<b∧b≠Qb∧vF.ownBlock≠some b)∧b≠g)→b<w2.heap.size→s.heap[b]?=w2.heap[b]?:=fun b hb hlt=>hs.block b hlt (fun e=>hb.2 (zO e));exact⟨f,k,n,p,ls,A,c,k',n',p',rs,A',c',hgw,he,hblk,⟨hl.keep hk hs.size (fun _ _ h=>h),hr.keep hk hs.size (fun _ _ h=>h)⟩,hg,oth_put (ho1.trans ho) hs hgw,ht.oth (by omega) hs⟩
end
theorem fact_at{q:Nat→Prop}{w:World}{base:Nat}{F:Option Addr}{n c:Nat}{xs:List Value}{fs:List Fact}{i:Nat}(hl:fs.length=n)(hi:i<n)(h:w.ownsRow base 70 9 (.slice F n c) n xs)(hr:FRow q w fs xs):∃g f,F=some ⟨g,0,none⟩∧base≤g∧g<w.heap.size∧f∈fs∧FactO q w g (i*9) f:=by
 rcases h.2 with⟨_,e0⟩ | ⟨g,cap,cur,hv,hbg,hg,_⟩
 ·omega
 injection hv with e1 _ _;refine⟨g,fs[i]'(by omega),e1,hbg,zL hg,Ze _,?_⟩;have:=hr.lie (b:=g) (o:=0) (fun j u hj=>?_) i (by omega)
 ·simpa using this
 subst e1;have:=h.cells (g:=g) rfl j u hj;rw[ocell_add] at this;simpa using this
theorem QuP.keep{q q':Nat→Prop}{w w':World}{fs:List Fact}{F:Option Addr}{o p:Lfc.Ord}{vo vp:Value}{ts us:List Raw}{L R:Option Addr}{cl cr:Nat}{ks:List Int}{A0:Option Addr}(hk:∀b,q b→b<w.heap.size→w'.heap[b]?=w.heap[b]?)(hs:w.heap.size≤w'.heap.size)(hq:∀b,b<w.heap.size→q b→q' b)(h:QuP q w fs F o p vo vp ts us L R cl cr ks A0):QuP q' w' fs F o p vo vp ts us L R cl cr ks A0 :=
 ⟨h.fl,h.rl,h.ff.keep hk hs hq,h.os,h.ps,h.vo.keep hk hs hq,h.vp.keep hk hs hq,h.n1,h.n,h.eq,h.l,h.r,h.tt.keep hk hs hq,h.uu.keep hk hs hq,h.kl,h.kk.keep hk hs hq,h.zt,h.zu,h.gf⟩
structure As3(w:World)(T Qb:Nat)(rel:Int)(A0:Option Addr)(nk c0:Nat)(ks:List Int)(k:Nat)(ts us:List Raw)(AL:Option Addr)(cl:Nat)(AR:Option Addr)(cr:Nat)(fs:List Fact)(nf:Nat)(F:Option Addr)(f0:Nat)(o p:Lfc.Ord)(k1 a1:Int)(A1:Option Addr)(l1 c1:Nat)(k2 a2:Int)(A2:Option Addr)(l2 c2:Nat)(W:World):Prop where
 blk:W.heap[Qb]?=some (.cells #[.slice F nf f0,.int .i64 rel,.int .i64 k1,.int .i64 a1,.slice A1 l1 c1,.int .i64 k2,.int .i64 a2,.slice A2 l2 c2,.slice AL k cl,.slice AR k cr,.slice A0 nk c0] 29 (0,0))
 res:W.heap[w.heap.size]?=some (.cells #[.slice none 0 0,.int .i64 0,.int .i64 0,.int .i64 0,.slice none 0 0,.int .i64 0,.int .i64 0,.slice none 0 0,.slice none 0 0,.slice none 0 0,.slice none 0 0] 29 (0,0))
 qu:QuP (fun b=>w.heap.size<b∧b≠Qb) W fs F o p (.agg #[.int .i64 k1,.int .i64 a1,.slice A1 l1 c1]) (.agg #[.int .i64 k2,.int .i64 a2,.slice A2 l2 c2]) ts us AL AR cl cr ks A0
 tape:TapeI T W
 oth:Oth T w W
 lf:fs.length=nf
 lt:ts.length=k
 lu:us.length=k
 lk:ks.length=nk
 cap:nf≤f0∧(F=none→f0=0)
section
variable {w wB W W':World} {T Qb nk c0 k cl cr nf f0 l1 c1 l2 c2:Nat} {rel k1 a1 k2 a2:Int} {A0 AL AR F A1 A2:Option Addr} {ks:List Int} {ts us:List Raw} {fs:List Fact} {o p:Lfc.Ord}
theorem As3.othT(h:As3 w T Qb rel A0 nk c0 ks k ts us AL cl AR cr fs nf F f0 o p k1 a1 A1 l1 c1 k2 a2 A2 l2 c2 W)(hT:T<w.heap.size)(hQ:w.heap.size<Qb)(ho:Oth T W W')(ht:TapeI T W'):As3 w T Qb rel A0 nk c0 ks k ts us AL cl AR cr fs nf F f0 o p k1 a1 A1 l1 c1 k2 a2 A2 l2 c2 W' :=
 ⟨ho.heap h.blk (by omega),ho.heap h.res (by omega),h.qu.keep (fun b hb hlt=>ho.block b hlt (fun e=>by have:=zO e;omega)) ho.size (fun _ _ h=>h),ht,h.oth.trans ho,h.lf,h.lt,h.lu,h.lk,h.cap⟩
theorem As3.pset{W1 s:World}{p':Lfc.Ord}{k3 a3:Int}{A3:Option Addr}{l3 c3:Nat}(h:As3 w T Qb rel A0 nk c0 ks k ts us AL cl AR cr fs nf F f0 o p k1 a1 A1 l1 c1 k2 a2 A2 l2 c2 W)(hT:T<w.heap.size)(hQ:w.heap.size<Qb)(ho:Oth T W W1)(ht:TapeI T W1)(hv:OrdVP (fun b=>W.heap.size≤b) W1 p' (.agg #[.int .i64 k3,.int .i64 a3,.slice A3 l3 c3]))(hz:p'.size≤20)(hs:Oth Qb W1 s)
  (hblk:s.heap[Qb]?=some (.cells #[.slice F nf f0,.int .i64 rel,.int .i64 k1,.int .i64 a1,.slice A1 l1 c1,.int .i64 k3,.int .i64 a3,.slice A3 l3 c3,.slice AL k cl,.slice AR k cr,.slice A0 nk c0] 29 (0,0))):As3 w T Qb rel A0 nk c0 ks k ts us AL cl AR cr fs nf F f0 o p' k1 a1 A1 l1 c1 k3 a3 A3 l3 c3 s:=by
 have h1:=h.othT hT hQ ho ht;have hQW:=zL h.blk;have hsz:=ho.size;have hw:=h.oth.size;have hk:∀b,(w.heap.size<b∧b≠Qb)→b<W1.heap.size→s.heap[b]?=W1.heap[b]?:=fun b hb hlt=>hs.block b hlt (fun e=>hb.2 (zO e));have hqu:=h1.qu.keep hk hs.size (fun _ _ h=>h);exact⟨hblk,(hs.block _ (by omega) (fun e=>by have:=zO e;omega)).trans h1.res,{ hqu with ps:=hz,vp:=hv.keep (fun b hb hlt=>hs.block b hlt (fun e=>by have:=zO e;omega)) hs.size (fun b _ hb=>⟨by omega,by omega⟩) },ht.oth (by omega) hs,oth_put h1.oth hs (by omega),h.lf,h.lt,h.lu,h.lk,h.cap⟩
theorem As2.three{W1 s:World}(h:As2 w wB T Qb rel A0 nk c0 ks k ts us AL cl AR cr fs nf F f0 W)(hT:T<w.heap.size)(hQ:w.heap.size<Qb)(hQB:Qb<wB.heap.size)(ho:Oth T W W1)(ht:TapeI T W1)(hv:OrdVP (fun b=>W.heap.size≤b) W1 o (.agg #[.int .i64 k1,.int .i64 a1,.slice A1 l1 c1]))(hz:o.size≤20)(hs:Oth Qb W1 s)
  (hblk:s.heap[Qb]?=some (.cells #[.slice F nf f0,.int .i64 rel,.int .i64 k1,.int .i64 a1,.slice A1 l1 c1,.int .i64 k1,.int .i64 a1,.slice A1 l1 c1,.slice AL k cl,.slice AR k cr,.slice A0 nk c0] 29 (0,0)))
  (hnf:nf≤3) (hk1:1≤k∧k≤3) (hlt:ts.length=k) (hlu:us.length=k) (hlk:ks.length=nk) (hnk:nk≤5) (hL:AL=none→k=0∧cl=0) (hR:AR=none→k=0∧cr=0) (hzt:∀t,t∈ts→t.size≤40) (hzu:∀t,t∈us→good t) :
  As3 w T Qb rel A0 nk c0 ks k ts us AL cl AR cr fs nf F f0 o o k1 a1 A1 l1 c1 k1 a1 A1 l1 c1 s:=by
 have hBw:w.heap.size≤wB.heap.size:=by omega
 have hsz:=ho.size;have hsW:=h.size;have h1:=h.othT hT hQ hBw ho ht;obtain⟨xF,hown,hrow⟩:=h1.row;have hk:∀b,(w.heap.size<b∧b≠Qb)→b<W1.heap.size→s.heap[b]?=W1.heap[b]?:=fun b hb hlt=>hs.block b hlt (fun e=>hb.2 (zO e));have hF:FactsP (fun b=>w.heap.size<b∧b≠Qb) W1 F fs:=factsP_own h.lf hown (fun b hb=>⟨by omega,by omega⟩) (hrow.keep (fun _ _ _=>rfl) (zN _) (fun b _ hb=>⟨hb.1,hb.2.1⟩));have hV:OrdVP (fun b=>w.heap.size<b∧b≠Qb) s o (.agg #[.int .i64 k1,.int .i64 a1,.slice A1 l1 c1]):=hv.keep (fun b hb hlt=>hs.block b hlt (fun e=>by have:=zO e;omega)) hs.size (fun b _ hb=>⟨by omega,by omega⟩);refine⟨hblk,(hs.block _ (by have:=zL h1.res;omega) (fun e=>by have:=zO e;omega)).trans h1.res,?_,ht.oth (by omega) hs,oth_put h1.oth hs (by omega),h.lf,hlt,hlu,hlk,?_⟩
 rotate_left
 ·rcases hown.2 with⟨e,e0⟩ | ⟨g,cap,cur,e,hbg,hg,hnc,_,_,_⟩
  ·injection e with e1 e2 e3;exact⟨by omega,fun _=>e3⟩
  injection e with e1 e2 e3;exact⟨by omega,fun e4=>by rw[e1] at e4;cases e4⟩
 exact {
  fl:=by rw[h.lf];exact hnf
  rl:=fun f hf=>(h.gf f hf).1
  ff:=hF.keep hk hs.size (fun _ _ h=>h)
  os:=hz
  ps:=hz
  vo:=hV
  vp:=hV
  n1:=by omega
  n:=by omega
  eq:=by omega
  l:=fun e=>by rw[hlt];exact hL e
  r:=fun e=>by rw[hlu];exact hR e
  tt:=h1.L.keep (fun b hb hlt=>hk b ⟨hb.1,hb.2.1⟩ hlt) hs.size (fun b _ hb=>⟨hb.1,hb.2.1⟩)
  uu:=h1.R.keep (fun b hb hlt=>hk b ⟨hb.1,hb.2.1⟩ hlt) hs.size (fun b _ hb=>⟨hb.1,hb.2.1⟩)
  kl:=by omega
  kk:=h1.ks.keep (fun b hb hlt=>hk b ⟨hb.1,hb.2.1⟩ hlt) hs.size (fun b _ hb=>⟨hb.1,hb.2.1⟩)
  zt:=hzt
  zu:=hzu
  gf:=fun f hf=>(h.gf f hf).2 }
theorem As3.ans{s:World}(h:As3 w T Qb rel A0 nk c0 ks k ts us AL cl AR cr fs nf F f0 o p k1 a1 A1 l1 c1 k2 a2 A2 l2 c2 W)(hT:T<w.heap.size)(hrel:rel=1∨rel=2∨rel=3)(hs:Oth w.heap.size W s):AskAns w T (.returned (.agg #[.slice F nf f0,.int .i64 rel,.int .i64 k1,.int .i64 a1,.slice A1 l1 c1,.int .i64 k2,.int .i64 a2,.slice A2 l2 c2,.slice AL k cl,.slice AR k cr,.slice A0 nk c0])) s:=by
 have h2:=h.qu.keep (q':=fun b=>w.heap.size≤b) (fun b hb hlt=>hs.block b hlt (fun e=>by have:=zO e;omega)) hs.size (fun b _ hb=>Nat.le_of_lt hb.1);refine⟨⟨fs,F,f0,rel,o,p,k1,a1,k2,a2,A1,A2,l1,c1,l2,c2,ts,us,AL,AR,cl,cr,ks,A0,c0,?_,hrel,⟨by rw[h.lf];exact h.cap.1,h.cap.2⟩,h2⟩,h.tape.oth hT hs,oth_put h.oth hs (zN _)⟩;rw[h.lf,h.lt,h.lu,h.lk]
end
end
section
open Go.RowKit Go.Maps _root_.Lfc
abbrev oI3:Obj:=.cells #[.int .i64 1,.int .i64 2,.int .i64 3] 3
abbrev oZF:Obj:=.cells #[.int .i64 0,S [],.int .i64 0,.slice none 0 0,.int .i64 0,.int .i64 0,S [],.int .i64 0,.slice none 0 0] 70
theorem Oth.al{T:Nat}{w W:World}(h:Oth T w W)(o:Obj):Oth T w (W.alloc o):=h.trans (zE ((zB W.heap.size W).alloc (zN _) o))
theorem TapeI.al{T:Nat}{W:World}(h:TapeI T W)(o:Obj):TapeI T (W.alloc o):=h.below ((zB W.heap.size W).alloc (zN _) o)
theorem al_heap{W:World}{g:Nat}{x:Obj}(h:W.heap[g]?=some x)(o:Obj):(W.alloc o).heap[g]?=some x:=(zA W o _ (zL h)).trans h
theorem v9a{q:Nat→Prop}{w W:World}{t:Raw}{v:Value}(h:TreeVP q w t v)(hb:Below w.heap.size w W):TreeVP q W t v:=h.keep (fun b _ hlt=>hb.block b hlt) hb.size (fun _ _ h=>h)
theorem v9b{q:Nat→Prop}{w W:World}{g:Nat}{t:Raw}{v:Value}(h:TreeVP q w t v)(hb:Below w.heap.size w W)(hg:w.heap.size≤g):TreeVP (fun b=>q b∧b≠g) W t v:=h.keep (fun b _ hlt=>hb.block b hlt) hb.size (fun b hlt hb=>⟨hb,by omega⟩)
theorem apT{ops:Array Oper}{o:Oper}{a:Act}{w:World}{K:Act→World→Prop}{Q:Exit→Act→World→Prop}{E:Prop}{s x:Operand}{base n g:Nat}{v:Value}{xs:List Value}(news:List Value)
  (hown:w.ownsRow base 51 4 v n xs) (hnews:∀j u,news[j]?=some u→w.cell? ((⟨g,0,none⟩:Addr).add j)=some u) (h1:∀u∈news,u.oneCell'=true) (h63:n+1≤maxLen) (hbytes:(n+1)*56≤140737488355328) (hbase:base≤w.heap.size)
  (h:∀A c w',w'.ownsRow base 51 4 (.slice A (n+1) c) (n+1) (xs++news)→w.grownBy w' v.ownBlock→((Value.slice A (n+1) c).ownBlock=v.ownBlock∨(Value.slice A (n+1) c).ownBlock=some w.heap.size)→K (a.put o.dst (.slice A (n+1) c)) w')
  (hgd:o.guard=none:=by rfl) (ho:o.op=.call { callee:=.builtin .append,args:=#[s,x],argTypes:=#[27,27] }:=by rfl) (hs:a.eval s=v:=by rfl) (hx:a.eval x=.slice (some ⟨g,0,none⟩) 1 1:=by rfl) (hl:news.length=1*4:=by rfl) :
  if Region.wanted o (yielded ops a.tmps)=true then Oper.wp Tryz.prog o a w K Q else E:=by
 obtain⟨i0,hi,hz0,hz1,hz2⟩:=info_parts termInfo;refine step_append_own_at w hgd s x 27 ho base 51 i0 (.agg #[.int .i64 0,S [],.int .i64 0,.slice none 0 0]) 4 56 Tryz.underlying27 hi hz0 hz1 hz2 rfl (by decide) v n xs hs hown ⟨g,0,none⟩ 1 1 news hx hl hnews h1 h63 hbytes hbase ?_;intro v' w' h2 h3 h4;obtain⟨A,c,rfl⟩:=oform h2;exact h A c w' h2 h3 h4
end
end Go.Proofs.YtadjpadieljjlaaGreat
