/- Parts of the proof that no input makes the law false: TokLaw,TokLaw2,PaTok,PaErr,PaIt. -/
import Derived.Test.YthajalgkjonaaaaGreatDoorQxAA
import Derived.Test.YthajalgkjonaaaaGreatDoorQxAB
set_option linter.unusedVariables false
set_option linter.unusedSimpArgs false
namespace Lfc
theorem item_induct(P:List UInt8→Prop)(h0:P [])(h1:∀c r,(nx (c :: r)).err≠0→P (c :: r))
  (h2:∀c r,(nx (c :: r)).err=0→P ((c :: r).drop (nx (c :: r)).len)→P (c :: r)):∀l,P l:=by
 have main:∀m(l:List UInt8),l.length≤m→P l:=by
  intro m
  induction m with
  |zero=>intro l hl;obtain rfl:=List.eq_nil_of_length_eq_zero (by omega:l.length=0);exact h0
  | succ m ih =>
   intro l hl
   match l,hl with
   |[],_=>exact h0
   | c :: r, hl =>
    by_cases he:(nx (c :: r)).err=0
    ·have:=nx_len c r he
     refine h2 c r he (ih _ ?_)
     rw[List.length_drop,List.length_cons]
     simp only[List.length_cons] at hl
     omega
    ·exact h1 c r he
 exact fun l=>main _ l (Nat.le_refl _)
def put(x:Nx)(n:Nat)(y:List Tok × Int × Nat):List Tok × Int × Nat :=
 if x.kind=0 then y else if y.2.1=0 then(⟨x.kind,x.text,n⟩ :: y.1,y.2) else([],y.2)
def scF:Nat→Nat→List UInt8→List Tok × Int × Nat
 |0,n,_=>([],0,n)
 |_+1,n,[]=>([],0,n)
 |f+1,n,c :: r =>
  if (nx (c :: r)).err≠0 then([],(nx (c :: r)).err,n)
  else put (nx (c :: r)) n (scF f (n+(nx (c :: r)).len) ((c :: r).drop (nx (c :: r)).len))
def sc(n:Nat)(l:List UInt8):List Tok × Int × Nat:=scF l.length n l
theorem scF_any:∀(m f g n:Nat)(l:List UInt8),l.length≤m→l.length≤f→l.length≤g→scF f n l=scF g n l:=by
 intro m
 induction m with
 |zero =>
  intro f g n l h _ _
  obtain rfl:=List.eq_nil_of_length_eq_zero (by omega:l.length=0)
  cases f <;> cases g <;> rfl
 | succ m ih =>
  intro f g n l h hf hg
  match l,h,hf,hg with
  |[],_,_,_=>cases f <;> cases g <;> rfl
  | c :: r, h, hf, hg =>
   simp only[List.length_cons] at h hf hg
   obtain⟨f,rfl⟩:∃k,f=k+1:=⟨f-1,by omega⟩
   obtain⟨g,rfl⟩:∃k,g=k+1:=⟨g-1,by omega⟩
   rw[scF,scF]
   by_cases he:(nx (c :: r)).err≠0
   ·rw[if_pos he,if_pos he]
   ·have hl:=nx_len c r (by simpa using he)
    have hd:((c :: r).drop (nx (c :: r)).len).length≤r.length:=by rw[List.length_drop,List.length_cons];omega
    rw[if_neg he,if_neg he,ih f g _ _ (by omega) (by omega) (by omega)]
theorem sc_nil(n:Nat):sc n []=([],0,n):=rfl
theorem sc_err(n:Nat)(c:UInt8)(r:List UInt8)(h:(nx (c :: r)).err≠0):sc n (c :: r)=([],(nx (c :: r)).err,n):=by
 rw[sc,List.length_cons,scF,if_pos h]
theorem sc_ok(n:Nat)(c:UInt8)(r:List UInt8)(h:(nx (c :: r)).err=0):sc n (c :: r)=put (nx (c :: r)) n (sc (n+(nx (c :: r)).len) ((c :: r).drop (nx (c :: r)).len)):=by
 have hl:=nx_len c r h
 have hd:((c :: r).drop (nx (c :: r)).len).length≤r.length:=by rw[List.length_drop,List.length_cons];omega
 rw[sc,List.length_cons,scF,if_neg (by simpa using h),sc,scF_any r.length r.length _ _ _ hd hd (Nat.le_refl _)]
theorem put_snd(x:Nx)(n:Nat)(y:List Tok × Int × Nat):(put x n y).2=y.2:=by
 unfold put;split
 ·rfl
 ·split <;> rfl
theorem put_fst(x:Nx)(n:Nat)(y:List Tok × Int × Nat)(h:y.2.1=0):(put x n y).1=(if x.kind=0 then [] else [⟨x.kind,x.text,n⟩])++y.1:=by
 unfold put;split
 ·rfl
 ·first | rfl | (rw[if_pos h];rfl)
theorem put_none(x:Nx)(n:Nat)(y:List Tok × Int × Nat)(h:y.2.1≠0)(h1:y.1=[]):put x n y=y:=by
 unfold put;split
 ·rfl
 ·first | exact Prod.ext h1.symm rfl | (rw[if_neg h];exact Prod.ext h1.symm rfl)
theorem sc_none(l:List UInt8):∀n,(sc n l).2.1≠0→(sc n l).1=[]:=by
 induction l using item_induct with
 |h0=>intro n _;rfl
 |h1 c r he=>intro n _;rw[sc_err _ _ _ he]
 |h2 c r he ih =>
  intro n h
  rw[sc_ok _ _ _ he] at h ⊢
  rw[put_snd] at h
  rw[put_none _ _ _ h (ih _ h)]
  exact ih _ h
theorem sc_end(l:List UInt8):∀n,(sc n l).2.1=0→(sc n l).2.2=n+l.length:=by
 induction l using item_induct with
 |h0=>intro n _;rfl
 |h1 c r he=>intro n h;rw[sc_err _ _ _ he] at h;exact absurd h he
 |h2 c r he ih =>
  intro n h
  rw[sc_ok _ _ _ he] at h ⊢
  rw[put_snd] at h ⊢
  have hl:=nx_len c r he
  rw[ih _ h,List.length_drop,List.length_cons]
  omega
def brk:Bool→List UInt8→Nat
 |_,[]=>0
 |p,c :: r=>(if p && letterB c then 0 else 1)+brk (letterB c) r
theorem brk_le(p:Bool)(l:List UInt8):brk p l≤brk false l∧brk false l≤brk p l+1:=by
 cases l with
 |nil=>simp[brk]
 |cons c r=>simp only[brk];cases p <;> cases letterB c <;> simp <;> omega
theorem brk_drop:∀(m:Nat)(c:UInt8)(r:List UInt8)(p:Bool),m≤r.length→(if p && letterB c then 0 else 1)+brk (letterB ((c :: r).getD m 0)) (r.drop m)≤brk p (c :: r):=by
 intro m
 induction m with
 |zero=>intro c r p _;simp[brk]
 | succ m ih =>
  intro c r p h
  match r,h with
  |b :: q,h =>
   have:=ih b q (letterB c) (by simpa using h)
   simp only[List.drop_succ_cons,brk] at this ⊢
   simp only[List.getD_cons_succ] at this ⊢
   split at this <;> omega
theorem runLen_take(p:UInt8→Bool)(l:List UInt8):∀b∈l.take (runLen p l),p b=true:=by
 induction l with
 |nil=>intro b hb;simp at hb
 | cons c r ih =>
  intro b hb
  rw[runLen] at hb
  split at hb
  ·rename_i hc
   rw[List.take_succ_cons] at hb
   rcases List.mem_cons.1 hb with rfl | hb
   ·exact hc
   ·exact ih b hb
  ·simp at hb
theorem runLen_stop(p:UInt8→Bool)(l:List UInt8):∀d q,l.drop (runLen p l)=d :: q→p d=false:=by
 induction l with
 |nil=>intro d q h;simp at h
 | cons c r ih =>
  intro d q h
  rw[runLen] at h
  split at h
  ·rw[List.drop_succ_cons] at h;exact ih d q h
  ·rename_i hc
   rw[List.drop_zero] at h
   cases h
   simpa using hc
theorem runLen_app(p:UInt8→Bool)(a b:List UInt8)(ha:∀x∈a,p x=true)(hb:∀d q,b=d :: q→p d=false):runLen p (a++b)=a.length:=by
 induction a with
 |nil =>
  cases b with
  |nil=>rfl
  |cons d q=>rw[List.nil_append,runLen,if_neg (by rw[hb d q rfl];simp)];rfl
 |cons c r ih =>
  rw[List.cons_append,runLen,if_pos (ha c (List.mem_cons_self)),ih fun x hx=>ha x (List.mem_cons_of_mem _ hx)]
  rfl
def valid(t:Tok):Prop :=
 ((t.kind=if reservedB t.text then 2 else 1)∧t.text≠[]∧t.text.length≤64∧∀b∈t.text,nameB b=true) ∨
 (t.kind=2∧∃c,specialB c=true∧t.text=[c]) ∨
 (t.kind=3∧t.text≠[]∧t.text.length≤64∧∀b∈t.text,letterB b=true)
theorem nx_tok(c:UInt8)(r:List UInt8)(he:(nx (c :: r)).err=0)(hk:(nx (c :: r)).kind≠0) :
  (nameB c=true∧runLen nameB (c :: r)≤64∧nx (c :: r)=⟨if reservedB ((c :: r).take (runLen nameB (c :: r))) then 2 else 1,(c :: r).take (runLen nameB (c :: r)),runLen nameB (c :: r),0⟩) ∨
  (specialB c=true∧nx (c :: r)=⟨2,[c],1,0⟩) ∨
  (c.toNat=37∧1≤runLen letterB r∧runLen letterB r≤64∧nx (c :: r)=⟨3,r.take (runLen letterB r),runLen letterB r+1,0⟩):=by
 cases hb:blankB c
 ·by_cases h37:c.toNat=37
  ·have e:nx (c :: r)=pc r:=by simp only[nx];rw[hb,if_neg (by simp),if_pos h37]
   rw[e] at he hk ⊢
   refine .inr (.inr ⟨h37,?_⟩)
   match r with
   |[]=>simp[pc] at hk
   | b :: r' =>
    simp only[pc] at he hk ⊢
    by_cases h123:b.toNat=123
    ·rw[if_pos h123] at hk
     split at hk <;> simp at hk
    ·rw[if_neg h123] at he hk ⊢
     by_cases h0:runLen letterB (b :: r')=0
     ·rw[if_pos h0] at hk;simp at hk
     ·rw[if_neg h0] at he hk ⊢
      by_cases h64:64<runLen letterB (b :: r')
      ·rw[if_pos h64] at he;simp at he
      ·rw[if_neg h64];exact⟨by omega,by omega,rfl⟩
  ·cases hn:nameB c
   ·cases hs:specialB c
    ·have e:nx (c :: r)=⟨0,[],0,10⟩:=by simp only[nx];rw[hb,if_neg (by simp),if_neg h37,hn,if_neg (by simp),hs,if_neg (by simp)]
     rw[e] at he;simp at he
    ·exact .inr (.inl ⟨rfl,by simp only[nx];rw[hb,if_neg (by simp),if_neg h37,hn,if_neg (by simp),hs,if_pos rfl]⟩)
   ·have e:nx (c :: r)=nm ((c :: r).take (runLen nameB (c :: r))):=by simp only[nx];rw[hb,if_neg (by simp),if_neg h37,hn,if_pos rfl]
    have hl:((c :: r).take (runLen nameB (c :: r))).length=runLen nameB (c :: r):=by have:=runLen_le nameB (c :: r);rw[List.length_take];omega
    rw[e] at he ⊢
    refine .inl ⟨rfl,?_⟩
    unfold nm at he ⊢
    rw[hl] at he ⊢
    by_cases h64:64<runLen nameB (c :: r)
    ·rw[if_pos h64] at he;simp at he
    ·rw[if_neg h64];exact⟨by omega,rfl⟩
 ·have e:nx (c :: r)=⟨0,[],1,0⟩:=by simp only[nx];rw[hb,if_pos rfl]
  rw[e] at hk;simp at hk
theorem letter_name(c:UInt8)(h:letterB c=true):nameB c=true:=by
 have:=of_decide_eq_true h
 exact decide_eq_true (by omega)
theorem special_not(c:UInt8)(h:specialB c=true):letterB c=false:=by
 have:=of_decide_eq_true h
 exact decide_eq_false (by omega)
theorem nx_valid(c:UInt8)(r:List UInt8)(n:Nat)(he:(nx (c :: r)).err=0)(hk:(nx (c :: r)).kind≠0) :
  valid ⟨(nx (c :: r)).kind,(nx (c :: r)).text,n⟩∧(c :: r).take (nx (c :: r)).len=spT ⟨(nx (c :: r)).kind,(nx (c :: r)).text,n⟩ ∧
  (∀d q,(c :: r).drop (nx (c :: r)).len=d :: q→(letterB ((c :: r).getD ((nx (c :: r)).len-1) 0) && letterB d)=false):=by
 rcases nx_tok c r he hk with⟨hn,h64,e⟩ | ⟨hs,e⟩ | ⟨h37,h1,h64,e⟩
 ·rw[e]
  have hle:=runLen_le nameB (c :: r)
  have hpos:1≤runLen nameB (c :: r):=by rw[runLen,if_pos hn];omega
  have hl:((c :: r).take (runLen nameB (c :: r))).length=runLen nameB (c :: r):=by rw[List.length_take];omega
  refine⟨.inl ⟨rfl,?_,by rw[hl];exact h64,runLen_take nameB (c :: r)⟩,?_,?_⟩
  ·intro h0
   have:=congrArg List.length h0
   rw[hl] at this
   simp at this
   omega
  ·simp only[spT]
   rw[if_neg (by split <;> decide)]
  ·intro d q hd
   have:=runLen_stop nameB (c :: r) d q hd
   have hl:letterB d=false:=by
    cases hh:letterB d
    ·rfl
    ·rw[letter_name d hh] at this;cases this
   rw[hl,Bool.and_false]
 ·rw[e]
  refine⟨.inr (.inl ⟨rfl,c,hs,rfl⟩),rfl,?_⟩
  intro d q _
  have:=special_not c hs
  simp[this]
 ·rw[e]
  have hle:=runLen_le letterB r
  have hl:(r.take (runLen letterB r)).length=runLen letterB r:=by rw[List.length_take];omega
  refine⟨.inr (.inr ⟨rfl,?_,by rw[hl];exact h64,runLen_take letterB r⟩),?_,?_⟩
  ·intro h0
   have:=congrArg List.length h0
   rw[hl] at this
   simp at this
   omega
  ·simp only[spT,List.take_succ_cons]
   rw[if_pos trivial,show c=37 from UInt8.toNat_inj.1 h37]
  ·intro d q hd
   rw[List.drop_succ_cons] at hd
   rw[runLen_stop letterB r d q hd,Bool.and_false]
theorem sc_count(l:List UInt8):∀n,(sc n l).1.length≤brk false l:=by
 induction l using item_induct with
 |h0=>intro n;simp[sc_nil]
 |h1 c r he=>intro n;rw[sc_err _ _ _ he];simp
 | h2 c r he ih =>
  intro n
  rw[sc_ok _ _ _ he]
  have hl:=nx_len c r he
  obtain⟨m,hm⟩:∃m,(nx (c :: r)).len=m+1:=⟨(nx (c :: r)).len-1,by omega⟩
  have hi:=ih (n+(nx (c :: r)).len)
  have hb:=brk_drop m c r false (by omega)
  have hd:(c :: r).drop (nx (c :: r)).len=r.drop m:=by rw[hm,List.drop_succ_cons]
  rw[hd] at hi ⊢
  simp only[Bool.false_and,Bool.false_eq_true,if_false] at hb
  have h1:=(brk_le (letterB ((c :: r).getD m 0)) (r.drop m)).2
  unfold put
  split
  ·omega
  ·rename_i hk
   have hmax:=(nx_valid c r n he hk).2.2
   have h2:brk false (r.drop m)≤brk (letterB ((c :: r).getD m 0)) (r.drop m):=by
    rw[hm,List.drop_succ_cons] at hmax
    cases hq:r.drop m with
    |nil=>simp[brk]
    |cons d q =>
     have:=hmax d q hq
     simp only[Nat.add_sub_cancel] at this
     simp only[brk,this]
     simp
   split
   ·simp;omega
   ·simp
theorem lexR_sc(l:List UInt8):∀n acc,acc.length+brk false l≤20000→lexR n l acc=if (sc n l).2.1=0 then(acc++(sc n l).1,(sc n l).2) else([],(sc n l).2):=by
 induction l using item_induct with
 |h0=>intro n acc _;rw[lexR_nil,sc_nil];simp
 |h1 c r he=>intro n acc _;rw[lexR_cons,if_pos he,sc_err _ _ _ he];simp[he]
 | h2 c r he ih =>
  intro n acc hacc
  have hl:=nx_len c r he
  obtain⟨m,hm⟩:∃m,(nx (c :: r)).len=m+1:=⟨(nx (c :: r)).len-1,by omega⟩
  have hb:=brk_drop m c r false (by omega)
  have hd:(c :: r).drop (nx (c :: r)).len=r.drop m:=by rw[hm,List.drop_succ_cons]
  have h1:=(brk_le (letterB ((c :: r).getD m 0)) (r.drop m)).2
  simp only[Bool.false_and,Bool.false_eq_true,if_false] at hb
  rw[lexR_cons,if_neg (by simpa using he),sc_ok _ _ _ he,put_snd]
  by_cases hk:(nx (c :: r)).kind=0
  ·rw[if_pos hk,ih _ acc (by rw[hd];omega)]
   have:∀y,put (nx (c :: r)) n y=y:=fun y=>by unfold put;rw[if_pos hk]
   rw[this]
  ·have hmax:=(nx_valid c r n he hk).2.2
   have h2:brk false (r.drop m)≤brk (letterB ((c :: r).getD m 0)) (r.drop m):=by
    rw[hm,List.drop_succ_cons] at hmax
    cases hq:r.drop m with
    |nil=>simp[brk]
    |cons d q =>
     have:=hmax d q hq
     simp only[Nat.add_sub_cancel] at this
     simp only[brk,this]
     simp
   rw[if_neg hk,if_neg (by omega),ih _ _ (by rw[hd,List.length_append];simp;omega)]
   split
   ·rename_i h0
    rw[put_fst _ _ _ h0,if_neg hk]
    simp
   ·rfl
end Lfc
namespace Lfc
theorem lex_sc(l:List UInt8)(h:l.length≤65536)(hb:brk false l≤20000):lex l=if (sc 0 l).2.1=0 then((sc 0 l).1,(sc 0 l).2) else([],(sc 0 l).2):=by
  rw[lex_eq,if_neg (by omega),lexR_sc l 0 [] (by simpa using hb)]
  simp
theorem lex_sc'(l:List UInt8)(h:l.length≤65536)(hb:brk false l≤20000):lex l=sc 0 l:=by
  rw[lex_sc l h hb]
  split
  · rfl
  · rename_i h0;exact Prod.ext (sc_none l 0 h0).symm rfl
theorem cmt_app:∀(n:Nat)(l:List UInt8),l.length≤n→∀(d:Nat)(r z:List UInt8),cmt d l=some r→cmt d (l++z)=some (r++z):=by
  intro n
  induction n with
  |zero=>intro l hl d r z h;obtain rfl:=List.eq_nil_of_length_eq_zero (by omega:l.length=0);simp[cmt] at h
  | succ n ih =>
    intro l hl d r z h
    match l,hl,h with
    |[],_,h=>simp[cmt] at h
    |[a],_,h=>simp[cmt] at h
    | a :: b :: t, hl, h =>
      simp only[List.length_cons] at hl
      simp only[List.cons_append]
      rw[cmt] at h ⊢
      split at h
      · rename_i h1;rw[if_pos h1];exact ih t (by omega) _ _ z h
      · rename_i h1
        rw[if_neg h1]
        split at h
        · rename_i h2
          rw[if_pos h2]
          split at h
          · rename_i h3;rw[if_pos h3];cases h;rfl
          · rename_i h3;rw[if_neg h3];exact ih t (by omega) _ _ z h
        · rename_i h2
          rw[if_neg h2]
          exact ih (b :: t) (by simp;omega) _ _ z h
theorem runLen_more(p:UInt8→Bool)(a:List UInt8)(b:UInt8)(z:List UInt8)(h:p b=false∨runLen p a<a.length):runLen p (a++b :: z)=runLen p a:=by
  induction a with
  | nil =>
    rcases h with h | h
    · simp[runLen,h]
    · simp[runLen] at h
  | cons c r ih =>
    rw[List.cons_append,runLen,runLen]
    split
    · rename_i hc
      rw[ih]
      rcases h with h | h
      · exact .inl h
      · rw[runLen,if_pos hc] at h;simp at h;exact .inr h
    · rfl
theorem take_runLen(p:UInt8→Bool)(a z:List UInt8):(a++z).take (runLen p a)=a.take (runLen p a):=by
  rw[List.take_append_of_le_length (runLen_le p a)]
theorem nx_app(c:UInt8)(r:List UInt8)(b:UInt8)(z:List UInt8)(hb:nameB b=false)(h11:(nx (c :: r)).err≠11)(hlast:b.toNat=10∨(nx (c :: r)).err≠0∨(nx (c :: r)).len<r.length+1)(h123:b.toNat≠123) :
    nx (c :: r++b :: z)=nx (c :: r):=by
  have hbl:letterB b=false:=by
    cases hh:letterB b
    · rfl
    · rw[letter_name b hh] at hb;cases hb
  rw[List.cons_append]
  simp only[nx] at h11 hlast ⊢
  split
  · rfl
  · rename_i hbc
    rw[if_neg hbc] at h11 hlast
    split
    · rename_i h37
      rw[if_pos h37] at h11 hlast
      match r with
      | [] =>
        simp only[pc,List.nil_append]
        rw[if_neg h123,if_pos (by simp[runLen,hbl])]
        simp only[pc] at hlast
        have h10:b.toNat=10:=by
          rcases hlast with h | h | h
          · exact h
          · simp at h
          · simp at h
        simp[runLen,notNlB,h10]
      | d :: r' =>
        simp only[pc,List.cons_append] at h11 hlast ⊢
        split
        · rename_i hd
          rw[if_pos hd] at h11
          cases hc:cmt 1 r' with
          |none=>rw[hc] at h11;simp at h11
          | some t =>
            rw[cmt_app _ r' (Nat.le_refl _) 1 t (b :: z) hc]
            simp
            omega
        · rename_i hd
          rw[if_neg hd] at h11 hlast
          have e1:runLen letterB (d :: (r'++b :: z))=runLen letterB (d :: r'):=runLen_more letterB (d :: r') b z (.inl hbl)
          have e2:(d :: (r'++b :: z)).take (runLen letterB (d :: r'))=(d :: r').take (runLen letterB (d :: r')):=take_runLen letterB (d :: r') (b :: z)
          rw[e1]
          split
          · rename_i h0
            rw[if_pos h0] at hlast
            have e3:runLen notNlB (d :: (r'++b :: z))=runLen notNlB (d :: r'):=by
              refine runLen_more notNlB (d :: r') b z ?_
              rcases hlast with h | h | h
              · exact .inl (by simp[notNlB,h])
              · simp at h
              · exact .inr (by simp at h ⊢;omega)
            rw[e3]
          · rw[e2]
    · split
      · have e1:runLen nameB (c :: (r++b :: z))=runLen nameB (c :: r):=runLen_more nameB (c :: r) b z (.inl hb)
        have e2:(c :: (r++b :: z)).take (runLen nameB (c :: r))=(c :: r).take (runLen nameB (c :: r)):=take_runLen nameB (c :: r) (b :: z)
        rw[e1,e2]
      · rfl
theorem sc_join(s t:List UInt8):∀n,(sc n s).2.1=0→sc n (s++10 :: t)=if (sc (n+s.length+1) t).2.1=0 then((sc n s).1++(sc (n+s.length+1) t).1,(sc (n+s.length+1) t).2) else([],(sc (n+s.length+1) t).2):=by
  have hx:nx (10 :: t)=⟨0,[],1,0⟩:=by simp only[nx];rw[if_pos (by decide)]
  induction s using item_induct with
  | h0 =>
    intro n _
    rw[List.nil_append,sc_ok _ _ _ (by rw[hx]),hx]
    simp only[put,List.drop_succ_cons,List.drop_zero,sc_nil,List.nil_append,List.length_nil,Nat.add_zero,if_true]
    split
    · rfl
    · rename_i h0;exact Prod.ext (sc_none t _ h0) rfl
  |h1 c r he=>intro n h;rw[sc_err _ _ _ he] at h;exact absurd h he
  | h2 c r he ih =>
    intro n h
    have hl:=nx_len c r he
    have e:nx (c :: r++10 :: t)=nx (c :: r):=nx_app c r 10 t (by decide) (by rw[he];decide) (.inl (by decide)) (by decide)
    have e':nx (c :: (r++10 :: t))=nx (c :: r):=e
    rw[sc_ok _ _ _ he,put_snd] at h
    rw[List.cons_append,sc_ok _ _ _ (by rw[e'];exact he),e',sc_ok _ _ _ he]
    have ed:(c :: (r++10 :: t)).drop (nx (c :: r)).len=(c :: r).drop (nx (c :: r)).len++10 :: t:=by
      rw[←List.cons_append,List.drop_append_of_le_length (by simp;omega)]
    have hn:n+(nx (c :: r)).len+((c :: r).drop (nx (c :: r)).len).length+1=n+(c :: r).length+1:=by rw[List.length_drop,List.length_cons];omega
    rw[ed,ih _ h,hn]
    by_cases h0:(sc (n+(c :: r).length+1) t).2.1=0
    · rw[if_pos h0,if_pos h0]
      refine Prod.ext ?_ (put_snd _ _ _)
      rw[put_fst]
      case h=>exact h0
      rw[put_fst _ _ _ h]
      simp
    · rw[if_neg h0,if_neg h0]
      exact put_none _ _ _ h0 rfl
def shift(d:Nat)(y:List Tok × Int × Nat):List Tok × Int × Nat:=(y.1.map fun t=>⟨t.kind,t.text,t.pos+d⟩,y.2.1,y.2.2+d)
theorem sc_shift(d:Nat)(l:List UInt8):∀n,sc (n+d) l=shift d (sc n l):=by
  induction l using item_induct with
  |h0=>intro n;rfl
  |h1 c r he=>intro n;rw[sc_err _ _ _ he,sc_err _ _ _ he];rfl
  | h2 c r he ih =>
    intro n
    rw[sc_ok _ _ _ he,sc_ok _ _ _ he,show n+d+(nx (c :: r)).len=n+(nx (c :: r)).len+d by omega,ih]
    unfold put
    split
    · rfl
    · simp only[shift]
      split
      · rename_i h;simp[h]
      · rename_i h;simp[h]
theorem sc_valid(l:List UInt8):∀n,∀t∈(sc n l).1,valid t:=by
  induction l using item_induct with
  |h0=>intro n t ht;simp[sc_nil] at ht
  |h1 c r he=>intro n t ht;rw[sc_err _ _ _ he] at ht;simp at ht
  | h2 c r he ih =>
    intro n t ht
    rw[sc_ok _ _ _ he] at ht
    unfold put at ht
    split at ht
    · exact ih _ t ht
    · rename_i hk
      split at ht
      · rcases List.mem_cons.1 ht with rfl | ht
        · exact(nx_valid c r n he hk).1
        · exact ih _ t ht
      · simp at ht
theorem name_not(c:UInt8)(h:nameB c=true):blankB c=false∧¬c.toNat=37:=by
  have:=of_decide_eq_true h
  exact⟨decide_eq_false (by omega),by omega⟩
theorem special_not'(c:UInt8)(h:specialB c=true):blankB c=false∧¬c.toNat=37∧nameB c=false:=by
  have:=of_decide_eq_true h
  exact⟨decide_eq_false (by omega),by omega,decide_eq_false (by omega)⟩
theorem blank_not(c:UInt8)(h:blankB c=true):nameB c=false∧letterB c=false:=by
  have:=of_decide_eq_true h
  exact⟨decide_eq_false (by omega),decide_eq_false (by omega)⟩
theorem nx_spell(t:Tok)(z:List UInt8)(hv:valid t)(hz:∀d q,z=d :: q→blankB d=true):nx (spT t++z)=⟨t.kind,t.text,(spT t).length,0⟩∧1≤(spT t).length:=by
  rcases hv with⟨hk,hne,h64,hall⟩ | ⟨hk,c,hs,ht⟩ | ⟨hk,hne,h64,hall⟩
  · have hsp:spT t=t.text:=by unfold spT;rw[if_neg (by rw[hk];split <;> decide)]
    rw[hsp]
    have hrun:=runLen_app nameB t.text z hall (fun d q h=>(blank_not d (hz d q h)).1)
    cases hx:t.text with
    |nil=>exact absurd hx hne
    | cons c r =>
      have hc:=hall c (by rw[hx];exact List.mem_cons_self)
      have h1:=name_not c hc
      rw[hx] at hrun
      have hrun':runLen nameB (c :: (r++z))=r.length+1:=by simpa using hrun
      have htk:(c :: (r++z)).take (r.length+1)=c :: r:=by rw[List.take_succ_cons,List.take_left]
      refine⟨?_,by simp⟩
      rw[List.cons_append]
      simp only[nx]
      rw[h1.1,if_neg (by simp),if_neg h1.2,hc,if_pos rfl,hrun',htk]
      unfold nm
      rw[hx] at h64 hk
      rw[if_neg (by omega),←hk]
  · have hsp:spT t=[c]:=by unfold spT;rw[if_neg (by rw[hk];decide),ht]
    have h1:=special_not' c hs
    rw[hsp,hk,ht]
    refine⟨?_,by simp⟩
    simp only[List.cons_append,List.nil_append,nx]
    rw[h1.1,if_neg (by simp),if_neg h1.2.1,h1.2.2,if_neg (by simp),hs,if_pos rfl]
    rfl
  · have hsp:spT t=37 :: t.text:=by unfold spT;rw[if_pos hk]
    rw[hsp,hk]
    have hrun:=runLen_app letterB t.text z hall (fun d q h=>(blank_not d (hz d q h)).2)
    refine⟨?_,by simp⟩
    cases hx:t.text with
    |nil=>exact absurd hx hne
    | cons c r =>
      have hc:=of_decide_eq_true (hall c (by rw[hx];exact List.mem_cons_self))
      rw[hx] at hrun h64
      have hrun':runLen letterB (c :: (r++z))=r.length+1:=by simpa using hrun
      have htk:(c :: (r++z)).take (r.length+1)=c :: r:=by rw[List.take_succ_cons,List.take_left]
      rw[List.cons_append]
      simp only[nx,List.cons_append]
      rw[if_neg (by decide),if_pos (by decide)]
      simp only[pc]
      rw[if_neg (by omega),hrun',if_neg (by omega),if_neg (by simp at h64;omega),htk]
      rfl
theorem sc_blank(n:Nat)(c:UInt8)(r:List UInt8)(h:blankB c=true):sc n (c :: r)=sc (n+1) r:=by
  have e:nx (c :: r)=⟨0,[],1,0⟩:=by simp only[nx];rw[h,if_pos rfl]
  rw[sc_ok _ _ _ (by rw[e]),e]
  simp[put]
theorem sc_tok(n:Nat)(t:Tok)(z:List UInt8)(hv:valid t)(hz:∀d q,z=d :: q→blankB d=true)(h0:(sc (n+(spT t).length) z).2.1=0) :
    sc n (spT t++z)=(⟨t.kind,t.text,n⟩ :: (sc (n+(spT t).length) z).1,(sc (n+(spT t).length) z).2):=by
  obtain⟨e,h1⟩:=nx_spell t z hv hz
  cases hx:spT t++z with
  | nil => have : (spT t ++ z).length = 0 := by rw [hx]; rfl
           rw[List.length_append] at this;omega
  | cons c r =>
    have hd:(c :: r).drop (spT t).length=z:=by rw[←hx,List.drop_left]
    rw[hx] at e
    have hk:t.kind≠0:=by
      rcases hv with⟨hk,_⟩ | ⟨hk,_⟩ | ⟨hk,_⟩
      · rw[hk];split <;> decide
      · rw[hk];decide
      · rw[hk];decide
    rw[sc_ok _ _ _ (by rw[e]),e]
    simp only
    rw[hd]
    unfold put
    rw[if_neg hk,if_pos h0]
def sameKT(a b:List Tok):Prop:=a.map (fun t=>(t.kind,t.text))=b.map (fun t=>(t.kind,t.text))
def gapOk(g:List UInt8):Prop:=(∃d q,g=d :: q∧blankB d=true)∧∀n z,sc n (g++z)=sc (n+g.length) z
def rend(ps:List (Tok × List UInt8)):List UInt8:=ps.flatMap fun p=>spT p.1++p.2
theorem sc_rend(ps:List (Tok × List UInt8))(hv:∀p∈ps,valid p.1∧gapOk p.2):∀n,∃ts,sc n (rend ps)=(ts,0,n+(rend ps).length)∧sameKT ts (ps.map (·.1)):=by
  induction ps with
  |nil=>intro n;exact⟨[],rfl,rfl⟩
  | cons p r ih =>
    intro n
    obtain⟨hv1,⟨d,q,hg,hd⟩,hgap⟩:=hv p List.mem_cons_self
    obtain⟨ts,e1,e2⟩:=ih (fun x hx=>hv x (List.mem_cons_of_mem _ hx)) (n+(spT p.1).length+p.2.length)
    have er:rend (p :: r)=spT p.1++(p.2++rend r):=by simp[rend]
    have eb:sc (n+(spT p.1).length) (p.2++rend r)=sc (n+(spT p.1).length+p.2.length) (rend r):=hgap _ _
    have:=sc_tok n p.1 (p.2++rend r) hv1 (fun d' q' h=>by rw[hg,List.cons_append] at h;cases h;exact hd) (by rw[eb,e1])
    refine⟨⟨p.1.kind,p.1.text,n⟩ :: ts,?_,?_⟩
    · rw[er,this,eb,e1]
      simp only[List.length_append]
      congr 2
      omega
    · simp only[sameKT,List.map_cons] at e2 ⊢
      rw[e2]
theorem sc_line(n:Nat)(x z:List UInt8)(h:∀b∈x,notNlB b=true)(h1:∀d q,x++10 :: z=d :: q→¬d.toNat=123∧letterB d=false):sc n (37 :: (x++10 :: z))=sc (n+x.length+1) (10 :: z):=by
  have hr:runLen notNlB (x++10 :: z)=x.length:=runLen_app notNlB x (10 :: z) h (fun d q e=>by cases e;decide)
  have e:nx (37 :: (x++10 :: z))=⟨0,[],x.length+1,0⟩:=by
    simp only[nx]
    rw[if_neg (by decide),if_pos (by decide)]
    cases hx:x++10 :: z with
    |nil=>simp at hx
    | cons d q =>
      obtain⟨h2,h3⟩:=h1 d q hx
      simp only[pc]
      rw[if_neg h2,if_pos (by simp[runLen,h3]),←hx,hr]
  rw[sc_ok _ _ _ (by rw[e]),e]
  simp only[put]
  rw[if_pos trivial,List.drop_succ_cons,List.drop_left,Nat.add_assoc]
theorem sc_block(n k:Nat)(x z:List UInt8)(h:∀y,cmt 1 (x++y)=some y)(hk:k=x.length+2):sc n (37 :: 123 :: (x++z))=sc (n+k) z:=by
  have e:nx (37 :: 123 :: (x++z))=⟨0,[],k,0⟩:=by
    simp only[nx]
    rw[if_neg (by decide),if_pos (by decide)]
    simp only[pc]
    rw[if_pos (by decide),h z]
    simp
    omega
  rw[sc_ok _ _ _ (by rw[e]),e]
  simp only[put]
  rw[if_pos trivial,hk]
  simp
def stands(s:List UInt8):Nat→List Tok→Prop
  |_,[]=>True
  |e,t :: r=>e≤t.pos∧t.pos+(spT t).length≤s.length∧(s.drop t.pos).take (spT t).length=spT t∧1≤(spT t).length∧stands s (t.pos+(spT t).length) r
theorem sc_stands(s:List UInt8):∀l n e,n≤s.length→l=s.drop n→e≤n→stands s e (sc n l).1:=by
  intro l
  induction l using item_induct with
  |h0=>intro n e _ _ _;simp[sc_nil,stands]
  |h1 c r he=>intro n e _ _ _;rw[sc_err _ _ _ he];simp[stands]
  | h2 c r he ih =>
    intro n e hn hl hen
    have hlen:=nx_len c r he
    have hs:r.length+1=s.length-n:=by have:=congrArg List.length hl;simpa using this
    have hd:(c :: r).drop (nx (c :: r)).len=s.drop (n+(nx (c :: r)).len):=by rw[hl,List.drop_drop]
    rw[sc_ok _ _ _ he]
    unfold put
    split
    · exact ih _ _ (by omega) hd (by omega)
    · rename_i hk
      split
      · obtain⟨_,h2,_⟩:=nx_valid c r n he hk
        have hlt:(spT ⟨(nx (c :: r)).kind,(nx (c :: r)).text,n⟩).length=(nx (c :: r)).len:=by rw[←h2,List.length_take,List.length_cons];omega
        refine⟨hen,by rw[hlt];simp only;omega,?_,by rw[hlt];omega,?_⟩
        · simp only
          rw[←hl,hlt]
          exact h2
        · rw[hlt]
          exact ih _ _ (by omega) hd (Nat.le_refl _)
      · simp[stands]
theorem stands_len(s:List UInt8):∀(ts:List Tok)(e:Nat),e≤s.length→stands s e ts→e+(ts.flatMap spT).length≤s.length:=by
  intro ts
  induction ts with
  |nil=>intro e he _;simpa using he
  | cons t r ih =>
    intro e _ h
    obtain⟨h1,h2,_,_,h5⟩:=h
    have:=ih _ h2 h5
    rw[List.flatMap_cons,List.length_append]
    omega
end Lfc
namespace Lfc
theorem lexF_ok:∀(f n:Nat)(l:List UInt8)(acc:List Tok),acc.length≤20000→(∀t∈acc,valid t)→(lexF f n l acc).2.1=0→(lexF f n l acc).1.length≤20000∧∀t∈(lexF f n l acc).1,valid t
 |0,n,l,acc,h1,h2,_=>⟨h1,h2⟩
 |f+1,n,[],acc,h1,h2,_=>⟨h1,h2⟩
 | f + 1, n, c :: r, acc, h1, h2, h3 => by
  rw[lexF] at h3 ⊢
  split at h3
  ·rename_i he;exact absurd h3 he
  rename_i he
  rw[if_neg he]
  split at h3
  ·rename_i hk
   rw[if_pos hk]
   exact lexF_ok f _ _ acc h1 h2 h3
  rename_i hk
  rw[if_neg hk]
  split at h3
  ·simp at h3
  rename_i ha
  rw[if_neg ha]
  refine lexF_ok f _ _ _ (by rw[List.length_append];simp;omega) (fun t ht=>?_) h3
  rcases List.mem_append.1 ht with ht | ht
  ·exact h2 t ht
  ·simp at ht
   subst ht
   exact(nx_valid c r n (Decidable.byContradiction he) hk).1
theorem lex_good{l:List UInt8}(h:(lex l).2.1=0):l.length≤65536∧(lex l).1.length≤20000∧∀t∈(lex l).1,valid t:=by
 unfold lex at h ⊢
 split at h
 ·simp at h
 ·rename_i hl
  rw[if_neg hl]
  exact⟨by omega,lexF_ok _ _ _ _ (by simp) (by simp) h⟩
theorem valid_le{t:Tok}(h:valid t):t.text.length≤64∧t.text≠[]:=by
 rcases h with⟨_,h1,h2,_⟩ | ⟨_,c,_,h⟩ | ⟨_,h1,h2,_⟩
 ·exact⟨h2,h1⟩
 ·rw[h];simp
 ·exact⟨h2,h1⟩
end Lfc
namespace Lfc
def NzE{α:Type}(r:PR α):Prop:=∀c a,r=.err c a→c≠0
theorem NzE.ok{α:Type}(x:α)(k:Nat):NzE (.ok x k:PR α):=fun _ _ h=>by cases h
theorem NzE.then{α β:Type}{r:PR α}{f:α→Nat→PR β}(h:NzE r)(hf:∀x k,NzE (f x k)):NzE (r.then f):=by
 cases r with
 |out=>intro c a e;cases e
 |err c' a'=>intro c a e;cases e;exact h _ _ rfl
 |ok x k=>exact hf x k
theorem nz_unexp{α:Type}(p:PE)(k:Nat):NzE (p.unexp k:PR α):=by
 intro c a h
 unfold PE.unexp at h
 split at h <;> cases h <;> decide
theorem nz_opdsG{g:Nat→PR (Option Opd)}(hg:∀k,NzE (g k)):∀(m k:Nat)(acc:List Opd),NzE (opdsG g m k acc)
 |0,_,_=>fun _ _ h=>by cases h
 | m + 1, k, acc => by
  intro c a h
  unfold opdsG at h
  cases hr:g k with
  |out=>rw[hr] at h;cases h
  |err e b=>rw[hr] at h;cases h;exact hg k _ _ hr
  |ok o k' =>
   rw[hr] at h
   cases o with
   |none=>cases h
   |some x=>exact nz_opdsG hg m k' _ c a h
theorem nz_exprG{p:PE}{g:Nat→PR (Option Opd)}(hg:∀k,NzE (g k))(k:Nat):NzE (p.exprG g k):=by
 unfold PE.exprG
 refine NzE.then (nz_opdsG hg _ _ _) (fun s k'=>?_)
 split
 ·exact nz_unexp _ _
 ·split
  ·rename_i h
   intro c a e
   cases e
   exact h
  ·exact NzE.ok _ _
theorem nz_punct(p:PE)(k:Nat)(s:List UInt8):NzE (p.punct k s):=by
 unfold PE.punct
 split
 ·exact NzE.ok _ _
 ·exact nz_unexp _ _
theorem nz_name(p:PE)(k:Nat):NzE (p.name k):=by
 unfold PE.name
 split
 ·exact NzE.ok _ _
 ·exact nz_unexp _ _
theorem nz_parG{p:PE}{g:Nat→PR (Option Opd)}(hg:∀k,NzE (g k))(k:Nat):NzE (p.parG g k):=by
 unfold PE.parG
 refine NzE.then (nz_exprG hg _) (fun t k1=>NzE.then ?_ (fun u k2=>NzE.then (nz_punct p _ _) (fun _ _=>NzE.ok _ _)))
 split
 ·exact NzE.then (nz_exprG hg _) (fun _ _=>NzE.ok _ _)
 ·exact NzE.ok _ _
theorem nz_bindG{p:PE}{g:Nat→PR (Option Opd)}(hg:∀k,NzE (g k))(kd:Int)(e:List UInt8)(k:Nat):NzE (p.bindG g kd e k):=by
 unfold PE.bindG
 have hb:NzE (p.bindN (k+1)):=by
  unfold PE.bindN
  split
  ·exact NzE.ok _ _
  ·exact nz_name _ _
 refine NzE.then hb (fun n k1=>NzE.then ?_ (fun l k2=>NzE.then (nz_punct p _ _) (fun _ k3=>NzE.then (nz_exprG hg _) (fun _ _=>NzE.ok _ _))))
 split
 ·exact NzE.then (nz_exprG hg _) (fun _ _=>NzE.ok _ _)
 ·exact NzE.ok _ _
theorem nz_opdF(p:PE):∀f k,NzE (p.opdF f k)
 |0,_=>fun _ _ h=>by cases h
 |f+1,k=>by
  rw[PE.opdF]
  unfold PE.opdG
  have hg:=nz_opdF p f
  repeat' split
  all_goals first | exact NzE.ok _ _ | exact NzE.then (nz_parG hg _) (fun _ _=>NzE.ok _ _) | exact NzE.then (nz_bindG hg _ _ _) (fun _ _=>NzE.ok _ _)
theorem nz_expr(p:PE)(k:Nat):NzE (p.expr k):=nz_exprG (nz_opdF p _) k
end Lfc
namespace Lfc
def digN(n:Int):List UInt8→Int
 |[]=>n
 |c :: r=>if c.toNat<48∨57<c.toNat then -1 else digN (10*n+((c.toNat:Int)-48)) r
def digitsP(s:List UInt8):Int:=if s=[]∨4<s.length∨((s.headD 0).toNat=48∧1<s.length) then -1 else digN 0 s
def PE.number(p:PE)(k:Nat)(least most:Int):PR Int:=if (p.pk k).kind≠1∨digitsP (p.pk k).text<least∨most<digitsP (p.pk k).text then p.unexp k else .ok (digitsP (p.pk k).text) (k+1)
def idxW(s:List UInt8):List (List UInt8)→Int
 |[]=>-1
 |a :: r=>if a=s then 0 else if idxW s r<0 then -1 else idxW s r+1
def PE.word(p:PE)(k:Nat)(ws:List (List UInt8)):PR Int:=if idxW (p.pk k).text ws<0∨(p.pk k).kind≠1 then p.unexp k else .ok (idxW (p.pk k).text ws) (k+1)
abbrev Bnd:=List UInt8 × Raw
structure Itm where
 kind:Int
 pos:Nat
 name:List UInt8
 type:List Raw
 value:List Raw
 op:Op
 som:List Bnd
 params:List Bnd
 blocks:List (List UInt8)
 fams:List (List UInt8)
 signs:List Int
 orders:List (List UInt8 × Ord)
 left:Ord
 right:Ord
 rel:Int
 count:Int
def Ord.nil:Ord:=.node 0 0 []
def Itm.new(a:Nat):Itm:=⟨0,a,[],[],[],⟨[],0,0⟩,[],[],[],[],[],[],Ord.nil,Ord.nil,0,0⟩
abbrev ItR:=PR (Itm × List Op)
def PE.declP(p:PE)(it:Itm)(k:Nat):ItR :=
 (p.name k).then fun n k1 =>
  if p.is k1 2 [58] then(p.expr (k1+1)).then fun t k2 =>
   if p.is k2 2 [61] then(p.punct k2 [61]).then fun _ k3=>(p.expr k3).then fun v k4=>(p.punct k4 [46]).then fun _ k5=>.ok ({ it with kind:=2,name:=n,type:=[t],value:=[v] },p.ops) k5
   else(p.punct k2 [46]).then fun _ k3=>.ok ({ it with kind:=1,name:=n,type:=[t] },p.ops) k3
  else(p.punct k1 [61]).then fun _ k3=>(p.expr k3).then fun v k4=>(p.punct k4 [46]).then fun _ k5=>.ok ({ it with kind:=2,name:=n,value:=[v] },p.ops) k5
def PE.opP(p:PE)(it:Itm)(fix:Int)(k:Nat):ItR :=
 (p.number k 0 99).then fun c k1=>(p.name k1).then fun n k2=>(p.punct k2 [46]).then fun _ k3 =>
  if (added p.ops ⟨n,fix,c⟩).2≠0 then .err (added p.ops ⟨n,fix,c⟩).2 (p.pk k1).pos else .ok ({ it with kind:=3,op:=⟨n,fix,c⟩ },(added p.ops ⟨n,fix,c⟩).1) k3
def fixes:List (List UInt8):=[[110,111,110,101],[108,101,102,116],[114,105,103,104,116]]
def PE.infixP(p:PE)(it:Itm)(k:Nat):ItR:=(p.word k fixes).then fun i k1=>p.opP it (3+i) k1
def PE.namedP(p:PE)(kind:Int)(it:Itm)(k:Nat):ItR:=(p.name k).then fun n k1=>(p.punct k1 [46]).then fun _ k2=>.ok ({ it with kind:=kind,name:=n },p.ops) k2
def PE.queryP(p:PE)(it:Itm)(k:Nat):ItR:=(p.number k 0 1000).then fun c k1=>(p.expr k1).then fun t k2=>(p.punct k2 [46]).then fun _ k3=>.ok ({ it with kind:=13,count:=c,type:=[t] },p.ops) k3
def bindersF(p:PE):Nat→Nat→List Bnd→PR (List Bnd)
 |0,_,_=>.out
 |f+1,k,acc=>(p.punct k [123]).then fun _ k1=>(p.name k1).then fun n k2=>(p.punct k2 [58]).then fun _ k3=>(p.expr k3).then fun t k4=>(p.punct k4 [125]).then fun _ k5 =>
  if p.is k5 2 [123] then bindersF p f k5 (acc++[(n,t)]) else .ok (acc++[(n,t)]) k5
def PE.binders(p:PE)(k:Nat):PR (List Bnd):=bindersF p (p.toks.length+1) k []
def PE.blockP(p:PE)(it:Itm)(k:Nat):ItR :=
 (p.name k).then fun n k1=>(p.punct k1 [58]).then fun _ k2 =>
  (if p.is k2 1 [115,111,109,101] then p.binders (k2+1) else .ok [] k2).then fun s k3=>(p.word k3 [[98,108,111,99,107]]).then fun _ k4=>(p.binders k4).then fun q k5=>(p.punct k5 [46]).then fun _ k6 =>
   .ok ({ it with kind:=4,name:=n,som:=s,params:=q },p.ops) k6
def barsF(p:PE):Nat→Nat→List (List UInt8)→PR (List (List UInt8))
 |0,_,_=>.out
 |f+1,k,acc=>if p.is k 1 [124] then(p.name (k+1)).then fun n k1=>barsF p f k1 (acc++[n]) else .ok acc k
def namesF(p:PE):Nat→Nat→List (List UInt8)→PR (List (List UInt8))
 |0,_,_=>.out
 |f+1,k,acc=>if p.isNm k then(p.name k).then fun n k1=>namesF p f k1 (acc++[n]) else .ok acc k
def PE.worldsP(p:PE)(it:Itm)(k:Nat):ItR :=
 (p.punct k [40]).then fun _ k1 =>
  (if p.isNm k1 then(p.name k1).then fun n k2=>barsF p (p.toks.length+1) k2 [n] else .ok [] k1).then fun bs k2=>(p.punct k2 [41]).then fun _ k3=>(p.name k3).then fun n k4 =>
   (namesF p (p.toks.length+1) k4 [n]).then fun fs k5=>(p.punct k5 [46]).then fun _ k6=>.ok ({ it with kind:=5,blocks:=bs,fams:=fs },p.ops) k6
def signs:List (List UInt8):=[[43],[45],[42]]
def signsF(p:PE):Nat→Nat→List Int→PR (List Int)
 |0,_,_=>.out
 |f+1,k,acc=>if p.is k 2 [46] then .ok acc (k+1) else(p.word k signs).then fun i k1=>signsF p f k1 (acc++[1+i])
def PE.modeP(p:PE)(it:Itm)(k:Nat):ItR:=(p.name k).then fun n k1=>(signsF p (p.toks.length+1) k1 []).then fun l k2=>.ok ({ it with kind:=6,name:=n,signs:=l },p.ops) k2
def partsF(p:PE)(g:Nat→PR Ord)(end_:List UInt8):Nat→Nat→List Ord→PR (List Ord)
 |0,_,_=>.out
 |f+1,k,acc=>if acc≠[]∧p.is k 2 end_ then .ok acc k else(g k).then fun x k1=>partsF p g end_ f k1 (acc++[x])
def PE.orderF(p:PE):Nat→Nat→Nat→PR Ord
 |0,_,_=>.out
 |f+1,o,k =>
  if p.is k 2 [91] then(if o+1=128 then .err 2 (p.pk k).pos else(partsF p (p.orderF f (o+1)) [93] (p.toks.length+1) (k+1) []).then fun l k1=>.ok (.node 3 0 l) (k1+1))
  else if p.is k 2 [123] then(if o+1=128 then .err 2 (p.pk k).pos else(partsF p (p.orderF f (o+1)) [125] (p.toks.length+1) (k+1) []).then fun l k1=>.ok (.node 2 0 l) (k1+1))
  else(p.number k 1 64).then fun n k1=>.ok (.node 1 n []) k1
def PE.order(p:PE)(k:Nat):PR Ord:=p.orderF 128 0 k
def ordersF(p:PE):Nat→Nat→List (List UInt8 × Ord)→PR (List (List UInt8 × Ord))
 |0,_,_=>.out
 |f+1,k,acc=>if acc=[]∨p.isNm k then(p.name k).then fun n k1=>(p.order k1).then fun o k2=>ordersF p f k2 (acc++[(n,o)]) else .ok acc k
def PE.ordersP(p:PE)(kind:Int)(it:Itm)(k:Nat):ItR:=(ordersF p (p.toks.length+1) k []).then fun l k1=>(p.punct k1 [46]).then fun _ k2=>.ok ({ it with kind:=kind,orders:=l },p.ops) k2
def rels:List (List UInt8):=[[60],[60,61]]
def PE.reducesP(p:PE)(it:Itm)(k:Nat):ItR :=
 (p.name k).then fun n k1=>(p.order k1).then fun a k2 =>
  (if p.is k2 2 [61] then(.ok 3 (k2+1):PR Int) else(p.word k2 rels).then fun i k3=>.ok (1+i) k3).then fun r k3=>(p.order k3).then fun b k4=>(p.punct k4 [46]).then fun _ k5 =>
   .ok ({ it with kind:=12,name:=n,left:=a,rel:=r,right:=b },p.ops) k5
def dirs:List (List UInt8):=[[105,110,102,105,120],[112,114,101,102,105,120],[112,111,115,116,102,105,120],[98,108,111,99,107],[119,111,114,108,100,115],[109,111,100,101],[99,111,118,101,114,115],[117,110,105,113,117,101],[115,116,114,105,99,116],[116,101,114,109,105,110,97,116,101,115],[116,111,116,97,108],[114,101,100,117,99,101,115],[113,117,101,114,121]]
def PE.dirP(p:PE):Int→Itm→Nat→ItR
 |0=>p.infixP
 |1=>fun it=>p.opP it 1
 |2=>fun it=>p.opP it 2
 |3=>p.blockP
 |4=>p.worldsP
 |5=>p.modeP
 |6=>p.namedP 7
 |7=>p.namedP 8
 |8=>p.namedP 9
 |9=>p.ordersP 10
 |10=>p.ordersP 11
 |11=>p.reducesP
 |_=>p.queryP
def PE.itemP(p:PE)(before:Nat)(k:Nat):ItR :=
 if before=512 then .err 7 (p.pk k).pos
 else if (p.pk k).kind=3 then(if idxW (p.pk k).text dirs<0 then .err 23 (p.pk k).pos else p.dirP (idxW (p.pk k).text dirs) (Itm.new (p.pk k).pos) (k+1))
 else if p.isNm k then p.declP (Itm.new (p.pk k).pos) k
 else p.unexp k
def itemsF(toks:List Tok)(fin:Nat):Nat→Nat→List Op→List Itm→PR (List Itm × List Op)
 |0,_,_,_=>.out
 |f+1,k,l,acc=>if k<toks.length then(PE.itemP ⟨toks,fin,l⟩ acc.length k).then fun x k1=>itemsF toks fin f k1 x.2 (acc++[x.1]) else .ok (acc,l) k
def itemsP(toks:List Tok)(fin:Nat)(l:List Op):PR (List Itm × List Op):=itemsF toks fin (toks.length+1) 0 l []
def extendP(l:List Op)(s:List UInt8):PR (List Itm × List Op):=if (lex s).2.1≠0 then .err (lex s).2.1 (lex s).2.2 else itemsP (lex s).1 s.length l
end Lfc
