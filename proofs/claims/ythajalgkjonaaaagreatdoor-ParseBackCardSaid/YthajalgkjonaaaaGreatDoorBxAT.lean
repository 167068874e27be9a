/- Parts of the proof that no input makes the law false: PaBkR, RawMadeS. -/
import Derived.Test.YthajalgkjonaaaaGreatDoorBxAS
set_option linter.unusedVariables false
set_option linter.unusedSimpArgs false
set_option maxRecDepth 100000
set_option maxHeartbeats 32000000
namespace Lfc
theorem bnds_len(q:List (List UInt8)):∀l:List Bnd,l.length≤(bndsT q l).length
 |[]=>by simp
 |b :: r=>by have:=bnds_len q r;rw[bndsT_cons];simp;omega
theorem read_block{p:PE}{q:List (List UInt8)}(hg:Good p q){b k ps:Nat}{n:List UInt8}{so pa:List Bnd}{K:KT}(hb:b≠512)(hn:isName n=true)(hso:∀b∈so,isName b.1=true∧b.2.wf=0)(hpa:∀b∈pa,isName b.1=true∧b.2.wf=0)(hp0:pa≠[])
  (hA:At p k ((⟨4,ps,n,[],[],op0,so,pa,[],[],[],[],Ord.nil,Ord.nil,0,0⟩:Itm).kts q++K)):ReadAs p q ⟨4,ps,n,[],[],op0,so,pa,[],[],[],[],Ord.nil,Ord.nil,0,0⟩ b k:=by
 have hx:((⟨4,ps,n,[],[],op0,so,pa,[],[],[],[],Ord.nil,Ord.nil,0,0⟩:Itm).wk q).flatMap Prod.snd=[(3,[98,108,111,99,107]),(1,n),(2,[58])]++(if so.length=0 then [] else(1,[115,111,109,101]) :: bndsT q so)++(1,[98,108,111,99,107]) :: bndsT q pa:=by
  show((([diK [98,108,111,99,107],nmK n,puK 58]++(if so.length=0 then [] else nmK [115,111,109,101] :: bndsK q so)++nmK [98,108,111,99,107] :: bndsK q pa):WK)).flatMap Prod.snd=_;by_cases h0:so.length=0
  ·rw[if_pos h0,if_pos h0];simp[diK,nmK,puK,bndsT]
  rw[if_neg h0,if_neg h0];simp[diK,nmK,puK,bndsT]
 unfold ReadAs;unfold Itm.kts at hA ⊢;rw[hx] at hA ⊢;simp only[List.append_assoc,List.cons_append,List.nil_append] at hA;obtain⟨_,a2,a3,a4⟩:=hA.head;obtain⟨_,b2,b3,b4⟩:=a4.head;obtain⟨_,c2,c3,c4⟩:=b4.head;rw[item_dir hb a2 a3 (i:=3) (by decide) (by decide)];show ∃y,p.blockP _ _=_∧_;unfold PE.blockP;rw[name_of hn b2 b3,PR.then_okE,punct_ok' c2 c3,PR.then_okE];have tail:∀(so':List Bnd)(k3:Nat),so'.map bndS=so.map bndS→At p k3 ((1,[98,108,111,99,107]) :: (bndsT q pa++(2,[46]) :: K)) →
   ∃y,((p.word k3 [[98,108,111,99,107]]).then fun _ k4=>(p.binders k4).then fun q k5=>(p.punct k5 [46]).then fun _ k6=>(.ok ({ Itm.new (p.pk k).pos with kind:=4,name:=n,som:=so',params:=q },p.ops) k6:ItR))=.ok (y,p.ops) (k3+1+(bndsT q pa).length+1)∧y.strip=(⟨4,ps,n,[],[],op0,so,pa,[],[],[],[],Ord.nil,Ord.nil,0,0⟩:Itm).strip:=fun so' k3 hs h=>by
  obtain⟨_,d2,d3,d4⟩:=h.head;have hl:=d4.len (by simp);have hlp:=bnds_len q pa;simp only[List.length_append,List.length_cons] at hl;obtain⟨pa',e,hp⟩:=binders_of hg pa (p.toks.length+1) (k3+1) [] 2 [46] K hpa (by omega) hp0 (by decide) d4;obtain⟨_,f2,f3,_⟩:=(d4.app.2).head;rw[word_of d2 d3 (i:=0) (by decide) (by decide),PR.then_okE];unfold PE.binders;rw[e,PR.then_okE,punct_ok' f2 f3,PR.then_okE];exact⟨_,rfl,by simp[Itm.strip,Itm.new,hs,hp]⟩
 by_cases h0:so.length=0
 ·rw[if_pos h0] at c4 ⊢;obtain⟨_,d2,d3,_⟩:=At.head (show At p _ ((1,[98,108,111,99,107]) :: (bndsT q pa++(2,[46]) :: K)) from c4);have:p.is (k+1+1+1) 1 [115,111,109,101]=false:=by simp[PE.is,d3]
  rw[this,if_neg (by simp),PR.then_okE];have hs0:so=[]:=List.eq_nil_of_length_eq_zero h0;obtain⟨y,e,h⟩:=tail [] _ (by rw[hs0]) c4;refine⟨y,?_,h⟩;rw[e,if_neg (show ¬(4:Int)=3 by decide)];simp only[List.length_append,List.length_cons,List.length_nil]
  congr 1;omega
 rw[if_neg h0] at c4 ⊢;simp only[List.append_assoc,List.cons_append,List.nil_append] at c4;obtain⟨_,d2,d3,d4⟩:=c4.head;have:p.is (k+1+1+1) 1 [115,111,109,101]=true:=by simp[PE.is,d2,d3]
 rw[this,if_pos rfl];have hl:=d4.len (by simp);have hlp:=bnds_len q so;simp only[List.length_append,List.length_cons] at hl;obtain⟨so',e,hp⟩:=binders_of hg so (p.toks.length+1) _ [] 1 [98,108,111,99,107] _ hso (by omega) (by intro e;rw[e] at h0;simp at h0) (by decide) d4;unfold PE.binders;rw[e,PR.then_okE];obtain⟨y,e,h⟩:=tail so' _ hp d4.app.2;unfold PE.binders at e;refine⟨y,?_,h⟩;rw[List.nil_append,e,if_neg (show ¬(4:Int)=3 by decide)];simp only[List.length_append,List.length_cons,List.length_nil]
 congr 1;omega
theorem read_worlds{p:PE}{q:List (List UInt8)}{b k ps:Nat}{bl fa:List (List UInt8)}{K:KT}(hb:b≠512)(hbl:∀n∈bl,isName n=true)(hfa:∀n∈fa,isName n=true)(hf0:fa≠[])
  (hA:At p k ((⟨5,ps,[],[],[],op0,[],[],bl,fa,[],[],Ord.nil,Ord.nil,0,0⟩:Itm).kts q++K)):ReadAs p q ⟨5,ps,[],[],[],op0,[],[],bl,fa,[],[],Ord.nil,Ord.nil,0,0⟩ b k:=by
 have hx:((⟨5,ps,[],[],[],op0,[],[],bl,fa,[],[],Ord.nil,Ord.nil,0,0⟩:Itm).wk q).flatMap Prod.snd=[(3,[119,111,114,108,100,115]),(2,[40])]++(barsK bl).flatMap Prod.snd++(2,[41]) :: fa.map (fun n=>((1:Int),n)):=by
  show((([diK [119,111,114,108,100,115],puK 40]++barsK bl++puK 41 :: fa.map nmK):WK)).flatMap Prod.snd=_;have:∀l:List (List UInt8),(l.map nmK).flatMap Prod.snd=l.map (fun n=>((1:Int),n)):=fun l=>by induction l with | nil=>rfl | cons a r ih=>simp[nmK,ih]
  simp[diK,puK,this]
 unfold ReadAs;unfold Itm.kts at hA ⊢;rw[hx] at hA ⊢;simp only[List.append_assoc,List.cons_append,List.nil_append] at hA;obtain⟨_,a2,a3,a4⟩:=hA.head;obtain⟨_,b2,b3,b4⟩:=a4.head;rw[item_dir hb a2 a3 (i:=4) (by decide) (by decide)];show ∃y,p.worldsP _ _=_∧_;unfold PE.worldsP;rw[punct_ok' b2 b3,PR.then_okE];obtain⟨n,fr,rfl⟩:=List.exists_cons_of_ne_nil hf0;have tail:∀(k2:Nat),At p k2 ((2,[41]) :: ((n :: fr).map (fun n=>((1:Int),n))++(2,[46]) :: K)) →
   ((p.punct k2 [41]).then fun _ k3=>(p.name k3).then fun n k4=>(namesF p (p.toks.length+1) k4 [n]).then fun fs k5=>(p.punct k5 [46]).then fun _ k6=>(.ok ({ Itm.new (p.pk k).pos with kind:=5,blocks:=bl,fams:=fs },p.ops) k6:ItR))=.ok ({ Itm.new (p.pk k).pos with kind:=5,blocks:=bl,fams:=n :: fr },p.ops) (k2+(fr.length+3)):=fun k2 h=>by
  obtain⟨_,d2,d3,d4⟩:=h.head;obtain⟨_,e2,e3,e4⟩:=At.head (show At p (k2+1) ((1,n) :: (fr.map (fun n=>((1:Int),n))++(2,[46]) :: K)) from d4);have hl:=e4.len (by simp);simp only[List.length_append,List.length_map,List.length_cons] at hl;obtain⟨e5,h5⟩:=names_of fr (p.toks.length+1) (k2+1+1) [n] [46] K (fun x hx=>hfa x (List.mem_cons_of_mem _ hx)) (by omega) e4;obtain⟨_,f2,f3,_⟩:=h5.head;rw[punct_ok' d2 d3,PR.then_okE,name_of (hfa n List.mem_cons_self) e2 e3,PR.then_okE,e5,PR.then_okE,punct_ok' f2 f3,PR.then_okE];rw[show k2+1+1+fr.length+1=k2+(fr.length+3) by omega];rfl
 cases bl with
 |nil =>
  obtain⟨_,d2,d3,_⟩:=At.head (show At p (k+1+1) ((2,[41]) :: ((n :: fr).map (fun n=>((1:Int),n))++(2,[46]) :: K)) from b4);rw[isNm_two d2,if_neg (by simp),PR.then_okE,tail _ b4,if_neg (show ¬(5:Int)=3 by decide)];refine⟨{ Itm.new (p.pk k).pos with kind:=5,blocks:=[],fams:=n :: fr },?_,by simp[Itm.strip,Itm.new]⟩;simp[barsK];omega
 |cons c cr =>
  rw[barsK_flat] at b4 ⊢;simp only[List.cons_append] at b4;obtain⟨_,d2,d3,d4⟩:=b4.head;have hl:=d4.len (by simp);simp only[List.length_append,List.length_flatMap,List.length_cons] at hl;have hsum:(cr.flatMap (fun b=>[((1:Int),[(124:UInt8)]),(1,b)])).length=2*cr.length:=by
   clear hl d4 b4 tail hbl hA a4 hx;induction cr with
   |nil=>rfl
   |cons a r ih=>simp only[List.flatMap_cons,List.length_append,ih,List.length_cons,List.length_nil];omega
  have hl2:=d4.len (by simp);rw[List.length_append,hsum] at hl2;obtain⟨e5,h5⟩:=bars_of cr (p.toks.length+1) (k+1+1+1) [c] [41] _ (fun x hx=>hbl x (List.mem_cons_of_mem _ hx)) (by omega) d4;have hc:=hbl c List.mem_cons_self;rw[isNm_of hc d2 d3,if_pos rfl,name_of hc d2 d3,PR.then_okE,e5,PR.then_okE,show [c]++cr=c :: cr from rfl,tail _ h5,if_neg (show ¬(5:Int)=3 by decide)];refine⟨{ Itm.new (p.pk k).pos with kind:=5,blocks:=c :: cr,fams:=n :: fr },?_,by simp[Itm.strip,Itm.new]⟩;simp only[List.length_append,List.length_cons,List.length_nil,hsum,List.length_map]
  congr 1;omega
theorem read_mode{p:PE}{q:List (List UInt8)}{b k ps:Nat}{n:List UInt8}{si:List Int}{K:KT}(hb:b≠512)(hn:isName n=true)(hs:∀i∈si,1≤i∧i≤3)
  (hA:At p k ((⟨6,ps,n,[],[],op0,[],[],[],[],si,[],Ord.nil,Ord.nil,0,0⟩:Itm).kts q++K)):ReadAs p q ⟨6,ps,n,[],[],op0,[],[],[],[],si,[],Ord.nil,Ord.nil,0,0⟩ b k:=by
 have hx:((⟨6,ps,n,[],[],op0,[],[],[],[],si,[],Ord.nil,Ord.nil,0,0⟩:Itm).wk q).flatMap Prod.snd=(3,[109,111,100,101]) :: (1,n) :: si.map (fun i=>((1:Int),signW i)):=by
  show(([diK [109,111,100,101],nmK n]++si.map (fun i=>nmK (signW i)):WK)).flatMap Prod.snd=_;have:∀l:List Int,(l.map fun i=>nmK (signW i)).flatMap Prod.snd=l.map (fun i=>((1:Int),signW i)):=fun l=>by induction l with | nil=>rfl | cons a r ih=>simp only[List.map_cons,List.flatMap_cons,ih];rfl
  simp only[List.flatMap_append,this];rfl
 unfold ReadAs;unfold Itm.kts at hA ⊢;rw[hx] at hA ⊢;simp only[List.append_assoc,List.cons_append,List.nil_append] at hA;obtain⟨_,a2,a3,a4⟩:=hA.head;obtain⟨_,b2,b3,b4⟩:=a4.head;have hl:=b4.len (by simp);simp only[List.length_append,List.length_map,List.length_cons] at hl;rw[item_dir hb a2 a3 (i:=5) (by decide) (by decide)];show ∃y,p.modeP _ _=_∧_;unfold PE.modeP;rw[name_of hn b2 b3,PR.then_okE,signs_of si (p.toks.length+1) _ [] K hs (by omega) b4,PR.then_okE,if_neg (show ¬(6:Int)=3 by decide)];refine⟨{ Itm.new (p.pk k).pos with kind:=6,name:=n,signs:=si },?_,by simp[Itm.strip,Itm.new]⟩;simp only[List.length_append,List.length_cons,List.length_nil,List.length_map,List.nil_append]
 congr 1;omega
theorem fords_len:∀l:List (List UInt8 × Ord),l.length≤(fordsT l).length
 |[]=>by simp
 |b :: r=>by have:=fords_len r;rw[fordsT_cons];simp;omega
theorem read_orders{p:PE}{q:List (List UInt8)}{b k ps:Nat}{od:List (List UInt8 × Ord)}{K:KT}{w:List UInt8}{kd i:Int}(hb:b≠512)(hx:((⟨kd,ps,[],[],[],op0,[],[],[],[],[],od,Ord.nil,Ord.nil,0,0⟩:Itm).wk q).flatMap Prod.snd=(3,w) :: fordsT od)(hk3:kd≠3)(hi:idxW w dirs=i)(h0:0≤i)(hd:p.dirP i=p.ordersP kd)(ho:∀x∈od,isName x.1=true∧x.2.ofm 0=true)(hne:od≠[])
  (hA:At p k ((⟨kd,ps,[],[],[],op0,[],[],[],[],[],od,Ord.nil,Ord.nil,0,0⟩:Itm).kts q++K)):ReadAs p q ⟨kd,ps,[],[],[],op0,[],[],[],[],[],od,Ord.nil,Ord.nil,0,0⟩ b k:=by
 unfold ReadAs;unfold Itm.kts at hA ⊢;rw[hx] at hA ⊢;simp only[List.append_assoc,List.cons_append,List.nil_append] at hA;obtain⟨_,a2,a3,a4⟩:=hA.head;have hl:=a4.len (by simp);have hl2:=fords_len od;simp only[List.length_append,List.length_cons] at hl;obtain⟨e,h⟩:=fords_of od (p.toks.length+1) (k+1) [] [46] K ho (by omega) (.inr hne) a4;obtain⟨_,b2,b3,_⟩:=h.head;rw[item_dir hb a2 a3 hi h0,hd];unfold PE.ordersP;rw[e,PR.then_okE,punct_ok' b2 b3,PR.then_okE,if_neg hk3];refine⟨{ Itm.new (p.pk k).pos with kind:=kd,orders:=od },?_,by simp[Itm.strip,Itm.new]⟩;simp only[List.length_append,List.length_cons,List.length_nil,List.nil_append]
 congr 1;omega
theorem read_reduces{p:PE}{q:List (List UInt8)}{b k ps:Nat}{n:List UInt8}{le ri:Ord}{r:Int}{K:KT}(hb:b≠512)(hn:isName n=true)(hle:le.ofm 0=true)(hri:ri.ofm 0=true)(hr1:1≤r)(hr3:r≤3)
  (hA:At p k ((⟨12,ps,n,[],[],op0,[],[],[],[],[],[],le,ri,r,0⟩:Itm).kts q++K)):ReadAs p q ⟨12,ps,n,[],[],op0,[],[],[],[],[],[],le,ri,r,0⟩ b k:=by
 have hx:((⟨12,ps,n,[],[],op0,[],[],[],[],[],[],le,ri,r,0⟩:Itm).wk q).flatMap Prod.snd=(3,[114,101,100,117,99,101,115]) :: (1,n) :: (le.kt++(relK r).2++ri.kt):=by
  show(([diK [114,101,100,117,99,101,115],nmK n]++le.wk++[relK r]++ri.wk:WK)).flatMap Prod.snd=_;simp[diK,nmK,Ord.kt]
 unfold ReadAs;unfold Itm.kts at hA ⊢;rw[hx] at hA ⊢;simp only[List.append_assoc,List.cons_append,List.nil_append] at hA;obtain⟨_,a2,a3,a4⟩:=hA.head;obtain⟨_,b2,b3,b4⟩:=a4.head;obtain⟨e,c4⟩:=ord_of hle b4;have rel:∃a s,(relK r).2=[(a,s)]∧∀k',At p k' ((a,s) :: (ri.kt++(2,[46]) :: K))→(if p.is k' 2 [61] then(.ok 3 (k'+1):PR Int) else(p.word k' rels).then fun i k3=>.ok (1+i) k3)=.ok r (k'+1):=by
  have:r=1∨r=2∨r=3:=by omega
  rcases this with rfl | rfl | rfl
  ·refine⟨1,[60],rfl,fun k' h=>?_⟩;obtain⟨_,d2,d3,_⟩:=h.head;have:p.is k' 2 [61]=false:=is_false d3 (by decide);rw[this,if_neg (by simp),word_of d2 d3 (i:=0) (by decide) (by decide),PR.then_okE];rfl
  ·refine⟨1,[60,61],rfl,fun k' h=>?_⟩;obtain⟨_,d2,d3,_⟩:=h.head;have:p.is k' 2 [61]=false:=is_false d3 (by decide);rw[this,if_neg (by simp),word_of d2 d3 (i:=1) (by decide) (by decide),PR.then_okE];rfl
  refine⟨2,[61],rfl,fun k' h=>?_⟩;obtain⟨_,d2,d3,_⟩:=h.head;rw[is_true d2 d3,if_pos rfl]
 obtain⟨a,s,hr,hrel⟩:=rel;rw[hr] at c4 ⊢;obtain⟨_,_,_,d4⟩:=At.head (show At p _ ((a,s) :: (ri.kt++(2,[46]) :: K)) from c4);obtain⟨e',f4⟩:=ord_of hri d4;obtain⟨_,f2,f3,_⟩:=f4.head;rw[item_dir hb a2 a3 (i:=11) (by decide) (by decide)];show ∃y,p.reducesP _ _=_∧_;unfold PE.reducesP;rw[name_of hn b2 b3,PR.then_okE,e,PR.then_okE,hrel _ c4,PR.then_okE,e',PR.then_okE,punct_ok' f2 f3,PR.then_okE,if_neg (show ¬(12:Int)=3 by decide)];refine⟨{ Itm.new (p.pk k).pos with kind:=12,name:=n,left:=le,rel:=r,right:=ri },?_,by simp[Itm.strip,Itm.new]⟩;simp only[List.length_append,List.length_cons,List.length_nil,List.nil_append]
 congr 1;omega
theorem wfTs_all:∀{l:List Raw},wfTs l=0→∀t∈l,t.wf=0
 |[],_,t,h=>by cases h
 |a :: r,h,t,ht=>by
  rw[wfTs] at h;split at h
  ·exact absurd h (by assumption)
  rename_i h0;rcases List.mem_cons.1 ht with rfl | ht
  ·exact Decidable.not_not.1 h0
  exact wfTs_all h t ht
theorem namesF_all{l:List (List UInt8)}(h:namesF' l=true):∀n∈l,isName n=true:=by
 unfold namesF' at h;simp only[Bool.not_eq_true',List.any_eq_false] at h;intro n hn;simpa using h n hn
theorem bndsF_all{l:List Bnd}(h:bndsF l=true):∀b∈l,isName b.1=true:=by
 unfold bndsF at h;simp only[Bool.not_eq_true',List.any_eq_false] at h;intro n hn;simpa using h n hn
theorem fordsF_all{l:List (List UInt8 × Ord)}(h:fordsF l=true):(∀x∈l,isName x.1=true∧x.2.ofm 0=true)∧l≠[]:=by
 unfold fordsF at h;simp only[Bool.and_eq_true,decide_eq_true_eq,Bool.not_eq_true',List.any_eq_false] at h;refine⟨fun n hn=>?_,fun e=>by subst e;simp at h⟩;have:=h.2 n hn;simpa using this
theorem read_item{p:PE}{q:List (List UInt8)}(hg:Good p q){x:Itm}{b k:Nat}{K:KT}(hb:b≠512)(hf:x.formedP=true)(hw:wfTs x.trees=0)(ha:x.kind=3→(added p.ops x.op).2=0)(hA:At p k (x.kts q++K)):ReadAs p q x b k:=by
 replace hw:=wfTs_all hw
 unfold Itm.formedP at hf;obtain⟨kind,pos,name,type,value,op,som,params,blocks,fams,signs,orders,left,right,rel,count⟩:=x;simp only[Itm.trees] at hf hw ha;by_cases h1:kind=1
 ·rw[if_pos h1] at hf;simp only[Bool.and_eq_true,decide_eq_true_eq] at hf;obtain⟨⟨hn,hl⟩,hbl⟩:=hf;obtain⟨_,e2,e3,e4,e5,e6,e7,e8,_,e10,e11,e12,e13,e14⟩:=blank_of hbl;simp only at e2 e3 e4 e5 e6 e7 e8 e10 e11 e12 e13 e14;subst h1 e2 e3 e4 e5 e6 e7 e8 e10 e11 e12 e13 e14;obtain⟨t,rfl⟩:=List.length_eq_one_iff.1 hl;exact read_const hg hb hn (hw t (by simp)) hA
 rw[if_neg h1] at hf;by_cases h2:kind=2
 ·rw[if_pos h2] at hf;simp only[Bool.and_eq_true,decide_eq_true_eq] at hf;obtain⟨⟨⟨hn,hl⟩,hl'⟩,hbl⟩:=hf;obtain⟨_,_,e3,e4,e5,e6,e7,e8,_,e10,e11,e12,e13,e14⟩:=blank_of hbl;simp only at e3 e4 e5 e6 e7 e8 e10 e11 e12 e13 e14;subst h2 e3 e4 e5 e6 e7 e8 e10 e11 e12 e13 e14;obtain⟨v,rfl⟩:=List.length_eq_one_iff.1 hl';rcases type with _ | ⟨t,_ | ⟨t',r⟩⟩
  ·exact read_def1 hg hb hn (hw v (by simp)) hA
  ·exact read_def2 hg hb hn (hw t (by simp)) (hw v (by simp)) hA
  simp at hl
 rw[if_neg h2] at hf;by_cases h3:kind=3
 ·rw[if_pos h3] at hf;obtain⟨e1,e2,e3,e4,e5,e6,e7,e8,e9,_,e11,e12,e13,e14⟩:=blank_of hf;simp only at e1 e2 e3 e4 e5 e6 e7 e8 e9 e11 e12 e13 e14;subst h3 e1 e2 e3 e4 e5 e6 e7 e8 e9 e11 e12 e13 e14;exact read_op hb (ha rfl) hA
 rw[if_neg h3] at hf;by_cases h4:kind=4
 ·rw[if_pos h4] at hf;simp only[Bool.and_eq_true,decide_eq_true_eq] at hf;obtain⟨⟨⟨⟨hn,hl⟩,hs⟩,hp⟩,hbl⟩:=hf;obtain⟨e1,e2,_,_,e5,e6,e7,e8,_,e10,e11,e12,e13,e14⟩:=blank_of hbl;simp only at e1 e2 e5 e6 e7 e8 e10 e11 e12 e13 e14;subst h4 e1 e2 e5 e6 e7 e8 e10 e11 e12 e13 e14;refine read_block hg hb hn (fun b hb=>⟨bndsF_all hs b hb,hw _ ?_⟩) (fun b hb=>⟨bndsF_all hp b hb,hw _ ?_⟩) (fun e=>by subst e;simp at hl) hA
  ·simp only[List.nil_append,List.map_append,List.mem_append];exact .inl (List.mem_map_of_mem hb)
  simp only[List.nil_append,List.map_append,List.mem_append];exact .inr (List.mem_map_of_mem hb)
 rw[if_neg h4] at hf;by_cases h5:kind=5
 ·rw[if_pos h5] at hf;simp only[Bool.and_eq_true,decide_eq_true_eq] at hf;obtain⟨⟨⟨hn,hl⟩,hs⟩,hbl⟩:=hf;obtain⟨e1,e2,e3,e4,_,_,e7,e8,e9,e10,e11,e12,e13,e14⟩:=blank_of hbl;simp only at e1 e2 e3 e4 e7 e8 e9 e10 e11 e12 e13 e14;subst h5 e1 e2 e3 e4 e7 e8 e9 e10 e11 e12 e13 e14;exact read_worlds hb (namesF_all hn) (namesF_all hs) (fun e=>by subst e;simp at hl) hA
 rw[if_neg h5] at hf;by_cases h6:kind=6
 ·rw[if_pos h6] at hf;simp only[Bool.and_eq_true,Bool.not_eq_true',List.any_eq_false] at hf;obtain⟨⟨hn,hs⟩,hbl⟩:=hf;obtain⟨e1,e2,e3,e4,e5,e6,_,e8,_,e10,e11,e12,e13,e14⟩:=blank_of hbl;simp only at e1 e2 e3 e4 e5 e6 e8 e10 e11 e12 e13 e14;subst h6 e1 e2 e3 e4 e5 e6 e8 e10 e11 e12 e13 e14;refine read_mode hb hn (fun i hi=>?_) hA;have:=hs i hi;unfold signBad at this;simp only[Bool.or_eq_true,decide_eq_true_eq,not_or] at this;omega
 rw[if_neg h6] at hf;by_cases h7:kind=7∨kind=8∨kind=9
 ·rw[if_pos h7] at hf;simp only[Bool.and_eq_true] at hf;obtain⟨hn,hbl⟩:=hf;obtain⟨e1,e2,e3,e4,e5,e6,e7,e8,_,e10,e11,e12,e13,e14⟩:=blank_of hbl;simp only at e1 e2 e3 e4 e5 e6 e7 e8 e10 e11 e12 e13 e14;subst e1 e2 e3 e4 e5 e6 e7 e8 e10 e11 e12 e13 e14;rcases h7 with rfl | rfl | rfl
  ·exact read_named (i:=6) hb rfl (by decide) hn (by decide) (by decide) rfl hA
  ·exact read_named (i:=7) hb rfl (by decide) hn (by decide) (by decide) rfl hA
  exact read_named (i:=8) hb rfl (by decide) hn (by decide) (by decide) rfl hA
 rw[if_neg h7] at hf;by_cases h10:kind=10∨kind=11
 ·rw[if_pos h10] at hf;simp only[Bool.and_eq_true] at hf;obtain⟨hn,hbl⟩:=hf;obtain⟨e1,e2,e3,e4,e5,e6,e7,_,e9,e10,e11,e12,e13,e14⟩:=blank_of hbl;simp only at e1 e2 e3 e4 e5 e6 e7 e9 e10 e11 e12 e13 e14;subst e1 e2 e3 e4 e5 e6 e7 e9 e10 e11 e12 e13 e14;obtain⟨h8,h9⟩:=fordsF_all hn;rcases h10 with rfl | rfl
  ·exact read_orders (i:=9) hb rfl (by decide) (by decide) (by decide) rfl h8 h9 hA
  exact read_orders (i:=10) hb rfl (by decide) (by decide) (by decide) rfl h8 h9 hA
 rw[if_neg h10] at hf;by_cases h12:kind=12
 ·rw[if_pos h12] at hf;simp only[Bool.and_eq_true,decide_eq_true_eq] at hf;obtain⟨⟨⟨⟨⟨hn,hl⟩,hr⟩,r1⟩,r3⟩,hbl⟩:=hf;obtain⟨e1,e2,e3,e4,e5,e6,e7,e8,_,e10,_,_,_,e14⟩:=blank_of hbl;simp only at e1 e2 e3 e4 e5 e6 e7 e8 e10 e14;subst h12 e1 e2 e3 e4 e5 e6 e7 e8 e10 e14;exact read_reduces hb hn hl hr r1 r3 hA
 rw[if_neg h12] at hf;by_cases h13:kind=13
 ·rw[if_pos h13] at hf;simp only[Bool.and_eq_true,decide_eq_true_eq] at hf;obtain⟨⟨⟨hl,c0⟩,c1⟩,hbl⟩:=hf;obtain⟨_,e2,e3,e4,e5,e6,e7,e8,e9,e10,e11,e12,e13,_⟩:=blank_of hbl;simp only at e2 e3 e4 e5 e6 e7 e8 e9 e10 e11 e12 e13;subst h13 e2 e3 e4 e5 e6 e7 e8 e9 e10 e11 e12 e13;obtain⟨t,rfl⟩:=List.length_eq_one_iff.1 hl;obtain⟨c,rfl⟩:=Int.eq_ofNat_of_zero_le c0;exact read_query hg hb (by omega) (hw t (by simp)) hA
 rw[if_neg h13] at hf;cases hf
theorem added_good{ops:List Op}{o:Op}{q:List (List UInt8)}(h1:∀o∈ops,o.bad=0)(h2:∀o∈ops,o.name∈q)(h:(added ops o).2=0):(added ops o).1=ops++[o]∧(∀x∈ops++[o],x.bad=0)∧∀x∈ops++[o],x.name∈q++[o.name]:=by
 unfold added at h ⊢;split at h
 ·exact absurd h (by assumption)
 rename_i hb;have hb:=Decidable.not_not.1 hb;split at h
 ·cases h
 split at h
 ·cases h
 rw[if_neg (by simp[hb]),if_neg (by assumption),if_neg (by assumption)];refine⟨rfl,fun x hx=>?_,fun x hx=>?_⟩
 ·rcases List.mem_append.1 hx with hx | hx
  ·exact h1 x hx
  rw[List.mem_singleton.1 hx];exact hb
 rcases List.mem_append.1 hx with hx | hx
 ·exact List.mem_append_left _ (h2 x hx)
 rw[List.mem_singleton.1 hx];simp
def opsOf(l:List Itm):List Op:=(l.filter (fun x=>decide (x.kind=3))).map (·.op)
theorem opsOf_cons(x:Itm)(r:List Itm):opsOf (x :: r)=if x.kind=3 then x.op :: opsOf r else opsOf r:=by
 unfold opsOf;by_cases h:x.kind=3 <;> simp[h]
theorem kts_pos'(q:List (List UInt8))(x:Itm):1≤(x.kts q).length:=by unfold Itm.kts;simp
theorem items_of(T:List Tok)(fin:Nat):∀(l:List Itm)(f k:Nat)(ops:List Op)(q:List (List UInt8))(acc:List Itm),(∀o∈ops,o.bad=0)→(∀o∈ops,o.name∈q)→wfIts ops l=0→acc.length+l.length≤512→l.length<f→(T.drop k).map kt=ktsIts q l→k≤T.length →
  ∃a,itemsF T fin f k ops acc=.ok (acc++a,ops++opsOf l) T.length∧a.map Itm.strip=l.map Itm.strip
 |[],f+1,k,ops,q,acc,h1,h2,hw,hl,hf,hT,hk=>by
  have:T.length≤k:=by
   have:=congrArg List.length hT;simp[ktsIts] at this;omega
  have e:k=T.length:=by omega
  subst e;rw[itemsF,if_neg (by omega)];exact⟨[],by simp[opsOf],rfl⟩
 |x :: r,f+1,k,ops,q,acc,h1,h2,hw,hl,hf,hT,hk=>by
  rw[ktsIts] at hT;have hA:At ⟨T,fin,ops⟩ k (x.kts q++ktsIts (x.quo q) r):=⟨[],by rw[List.append_nil];exact hT⟩;have hp:=kts_pos' q x;have hlen:=hA.len (fun e=>by rw[(List.append_eq_nil_iff.1 e).1] at hp;simp at hp);simp only[List.length_append] at hlen;rw[wfIts] at hw;have hfm:x.formedP=true:=by
   cases hx:x.formedP
   ·rw[if_pos hx] at hw;cases hw
   rfl
  rw[if_neg (by simp[hfm])] at hw;by_cases ht:wfTs x.trees=0
  ·rw[if_neg (by simp[ht])] at hw;have ha:x.kind=3→(added ops x.op).2=0:=fun h=>by
    rw[if_pos h] at hw;by_cases h0:(added ops x.op).2=0
    ·exact h0
    rw[if_pos h0] at hw;exact hw
   obtain⟨y,e,hy⟩:=read_item (p:=⟨T,fin,ops⟩) ⟨h1,h2⟩ (b:=acc.length) (by have:(x :: r).length=r.length+1:=rfl;omega) hfm ht ha hA;have hT2:(T.drop (k+(x.kts q).length)).map kt=ktsIts (x.quo q) r:=by
    have:=congrArg (List.drop (x.kts q).length) hT;rw[←List.map_drop,List.drop_drop,List.drop_left] at this;exact this
   rw[itemsF,if_pos (by omega),e,PR.then_okE];by_cases h3:x.kind=3
   ·obtain⟨e1,e2,e3⟩:=added_good h1 h2 (ha h3);rw[if_pos h3,if_neg (by simp[ha h3]),e1] at hw;rw[if_pos h3];show ∃a,itemsF T fin f _ (added ops x.op).1 (acc++[y])=_∧_;rw[e1];have hq:x.quo q=q++[x.op.name]:=(by unfold Itm.quo;rw[if_pos h3]);rw[hq] at hT2;obtain⟨a,e4,e5⟩:=items_of T fin r f _ (ops++[x.op]) _ (acc++[y]) e2 e3 hw (by simp at hl ⊢;omega) (by simp at hf;omega) hT2 (by omega);exact⟨y :: a,by rw[e4,opsOf_cons,if_pos h3];simp,by simp[hy,e5]⟩
   rw[if_neg h3] at hw ⊢;have hq:x.quo q=q:=(by unfold Itm.quo;rw[if_neg h3]);rw[hq] at hT2;obtain⟨a,e4,e5⟩:=items_of T fin r f _ ops q (acc++[y]) h1 h2 hw (by simp at hl ⊢;omega) (by simp at hf;omega) hT2 (by omega);refine⟨y :: a,?_,by simp[hy,e5]⟩;show itemsF T fin f _ ops (acc++[y])=_;rw[e4,opsOf_cons,if_neg h3];simp
  rw[if_pos ht] at hw;exact absurd hw ht
theorem back_law(l:List Itm)(hw:wfItems l=0)(h:EatI [] l)(hl:(fmtIts [] l).length≤20000):∃a,extendP [] (formatP l)=.ok (a,opsOf l) (lex (formatP l)).1.length∧a.map Itm.strip=l.map Itm.strip∧(lex (formatP l)).2=(0,(formatP l).length):=by
 have hf:formatP l=fmtIts [] l:=by unfold formatP;rw[if_pos hw]
 rw[hf];obtain⟨ts,e,hk⟩:=lex_items l h hl;unfold wfItems at hw;have h512:¬ 512<l.length:=fun h=>by rw[if_pos h] at hw;cases hw
 rw[if_neg h512] at hw;have hkl:∀(l:List Itm)(q:List (List UInt8)),l.length≤(ktsIts q l).length:=fun l=>by
  induction l with
  |nil=>intro q;simp
  |cons x r ih=>intro q;have:=ih (x.quo q);have:=kts_pos' q x;rw[ktsIts];simp;omega
 have hlen:l.length≤ts.length:=by have:=hkl l [];rw[←hk,List.length_map] at this;exact this
 obtain⟨a,e1,e2⟩:=items_of ts (fmtIts [] l).length l (ts.length+1) 0 [] [] [] (fun _ h=>by cases h) (fun _ h=>by cases h) hw (by simp;omega) (by omega) (by simpa using hk) (by omega);refine⟨a,?_,e2,by rw[e]⟩;unfold extendP;rw[e];simp only[ne_eq,not_true_eq_false,if_false];exact e1
end Lfc
namespace Lfc
def formedS(k:Int)(n:List UInt8)(l:Nat):Bool:=formed k n l && decide (n.length≤60)
mutual
def Raw.fs:Raw→Bool
 |.node k n _ ts=>formedS k n ts.length && Raw.fss ts
def Raw.fss:List Raw→Bool
 |[]=>true
 |a :: r=>Raw.fs a && Raw.fss r
end
theorem fs_both:∀m:Nat,(∀t:Raw,t.size≤m→t.fs=true→t.form=true∧t.short 60):=by
 intro m;induction m with
 |zero=>intro t h _;have:=t.size_pos;omega
 |succ m ih =>
  rintro⟨k,n,p,ts⟩ h hf;rw[Raw.fs,Bool.and_eq_true,formedS,Bool.and_eq_true] at hf;obtain⟨⟨h1,h2⟩,h3⟩:=hf;have hl:∀l:List Raw,Raw.sizes l≤m→Raw.fss l=true→Raw.forms l=true∧Raw.shorts 60 l:=by
   intro l;induction l with
   |nil=>intro _ _;exact⟨rfl,trivial⟩
   |cons a r ih2 =>
    intro hs hf;rw[Raw.fss,Bool.and_eq_true] at hf;rw[Raw.sizes] at hs;have ha:=ih a (by omega) hf.1;have hr:=ih2 (by omega) hf.2;exact⟨by rw[Raw.forms,ha.1,hr.1];rfl,ha.2,hr.2⟩
  simp only[Raw.size] at h;have:=hl ts (by omega) h3;exact⟨by rw[Raw.form,h1,this.1];rfl,by rw[Raw.short];exact⟨by simpa using h2,this.2⟩⟩
theorem words_short(r:Nat)(h:r<10):(words.getD r []).length≤60:=by
 match r,h with
 |0,_=>decide
 |1,_=>decide
 |2,_=>decide
 |3,_=>decide
 |4,_=>decide
 |5,_=>decide
 |6,_=>decide
 |7,_=>decide
 |8,_=>decide
 |9,_=>decide
end Lfc
namespace Go.Proofs.YthajalgkjonaaaaGreatDoor
open Go.RowKit _root_.Lfc
theorem fss_app(a b:List Raw):Raw.fss (a++b)=(Raw.fss a && Raw.fss b):=by
 induction a with
 |nil=>simp[Raw.fss]
 |cons x r ih=>simp only[List.cons_append,Raw.fss,ih,Bool.and_assoc]
theorem binder_formedS{k:Int}{n:List UInt8}{l:Nat}(hk:k=7∨k=8)(hn:(isName n || decide (n=[95]))=true)(h6:n.length≤10)(hl:l=1∨l=2):formedS k n l=true:=by
 unfold formedS;rw[binder_formed hk hn hl,Bool.true_and,Zd];omega
def RawUptoS(d:Nat):Prop:=∀(T:Nat)(w:World),TapeAt T w →
  Calls Tryz.prog 13 #[.pointer (some ⟨T,0,none⟩),.int .i64 (d:Int)] w fun e w'=>(∃t v,e=.returned v∧TreeVP (fun b=>w.heap.size≤b) w' t v∧t.fs=true∧t.size+1≤2 ^ (d+1)∧t.depth≤d+1)∧TapeAt T w'∧Oth T w w'
theorem raw_stepS(d:Nat)(hd:d<=20)(ih:0<d->RawUptoS (d-1)):RawUptoS d:=by
 intro T w hT;have IH:=zH ih;obtain⟨wa,hwa⟩:∃wa,w.alloc (.cells #[zI 0,S [],zI 0,zS] 46)=wa:=⟨_,rfl⟩;have ba:=zG hwa;have ra:=zQ hwa;have Ta:=zH (hT.below ba);have hTlt:=hT.lt;have hRT:w.heap.size≠T:=by omega
 have RA:=zH ra;have BA:=zH ba;clear ba ra hT ih;go_enter Tryz.func13,Tryz.ntmps13;go_upto_region 1 with fail;clear hwa;go_wp2_with fail;refine(tapeNext_any T 9 wa (by omega) (by omega) Ta.o).mono ?_;rintro e w1⟨⟨r1,hr1,rfl⟩,T1',o1'⟩;have T1:=zH T1';have O1:=zH o1';clear T1' o1';go_upto_if 12 with fail;generalize hbb:decide (d=0)=bb;have HBB:=zH hbb;clear hbb;go_cut [5] (fun s5 wx=>∃kk:Nat,s5=zI (kk:Int)/\1<=kk/\kk<=9/\(d=0->kk<=4)/\Hid (TapeAt T wx)/\Hid (Oth T wa wx));case first =>
  cases bb;case true =>
   obtain⟨wb,hwb⟩:∃wb,w1.alloc (.cells #[zI 1,zI 1,zI 3,zI 4,zI 2] 3)=wb:=⟨_,rfl⟩;have bb:=zG hwb;have rb:=zQ hwb;have hT1:=T1.o.lt;have HN:=zH (tapeNext_any T 5 wb (by omega) (by omega) (T1.o.below bb));have BB:=zH bb;have RB:=zH rb;clear bb rb;go_wp2_with fail;refine HN.o.mono ?_;rintro e w2⟨⟨r2,hr2,rfl⟩,T2',o2'⟩;have T2:=zH T2';have hc:=fun j=>(o2'.cell (p:=⟨w1.heap.size,j,none⟩) (zL RB.o) (by simp only;omega)).trans (zC RB.o j);have O2:=zH ((O1.o.trans (zE BB.o)).trans o2');clear T2' o2' hwb;rcases(show r2=0\/r2=1\/r2=2\/r2=3\/r2=4 by omega) with rfl | rfl | rfl | rfl | rfl
   ·have hx:=hc 0;clear hc;simp at hx;go_wp2_with fail;go_meet;exact⟨1,rfl,by omega,by omega,fun _=>by omega,T2,O2⟩
   ·have hx:=hc 1;clear hc;simp at hx;go_wp2_with fail;go_meet;exact⟨1,rfl,by omega,by omega,fun _=>by omega,T2,O2⟩
   ·have hx:=hc 2;clear hc;simp at hx;go_wp2_with fail;go_meet;exact⟨3,rfl,by omega,by omega,fun _=>by omega,T2,O2⟩
   ·have hx:=hc 3;clear hc;simp at hx;go_wp2_with fail;go_meet;exact⟨4,rfl,by omega,by omega,fun _=>by omega,T2,O2⟩
   have hx:=hc 4;clear hc;simp at hx;go_wp2_with fail;go_meet;exact⟨2,rfl,by omega,by omega,fun _=>by omega,T2,O2⟩
  case false =>
   go_wp2_with fail;go_meet;exact⟨1+r1,by simp,by omega,by omega,fun h=>absurd h (of_decide_eq_false HBB.o),T1,O1⟩
 obtain⟨kk,rfl,hk1,hk9,hk4,T2,O2⟩:=hcut;go_wp2_with fail;refine(tapeNext_any T 100 wc (by omega) (by omega) T2.o).mono ?_;rintro e w3⟨⟨r3,hr3,rfl⟩,T3',o3'⟩;have T3:=zH T3';have O3:=zH (O2.o.trans o3');have hT3:=T3'.lt;go_upto_block 0 with fail;obtain⟨w4,hw4⟩:∃w4,w3.alloc (.cells #[zI (kk:Int),S [],zI (r3:Int),zS] 46)=w4:=⟨_,rfl⟩;rw[hw4];have b4:=zG hw4;have q4:=zQ hw4;have HS4:Hid (w4.heap.size=w3.heap.size+1):=zH (by rw[<-hw4];simp);have T4:=zH (T3'.below b4);have O4:=zH (O3.o.trans (zE b4));have Q4:=zH q4;clear T3' o3' b4 q4;clear hw4;go_cut [] (fun wx=>∃(k p:Int)(n:List UInt8)(ts:List Raw)(A:Option Addr)(c:Nat),Hid (wx.heap[w3.heap.size]?=some (.cells #[zI k,S n,zI p,.slice A ts.length c] 46 (0,0)))/\Hid (TreesAtP (fun b=>w.heap.size<b) wx A ts/\n.length<=1000000/\ts.length<=c/\(Raw.node k n p ts).fs=true/\Raw.sizes ts+2<=2 ^ (d+1)/\Raw.depths ts<=d)/\Hid (TapeAt T wx)/\Hid (Oth T wa wx));case first =>
  have hsz3:w.heap.size<w3.heap.size:=by have:=O3.o.size;have:=zL RA.o;omega
  have hs4:=eq2 HS4.o;have hTr:T<w3.heap.size:=hT3;have hpow:2<=2 ^ (d+1):=by have:=Nat.one_le_two_pow (n:=d);rw[Nat.pow_succ];omega
  have HP:=zH hpow;clear hpow;by_cases hkA:kk=1\/kk=2
  ·obtain⟨wb,wo,wc2,hw1,hwb,hwg,hwk⟩:=T4.o.words;have HWK:=zH hwk;have hl4:=T4.o.lt;have g2:=hs4;have hgl:0<w4.heap.size:=(by omega);clear hwk;rcases hkA with rfl | rfl;all_goals
    go_wp2_with fail;go_region_held3 (fun w'=>w'.cell? ⟨0,0,none⟩=some (.slice (some ⟨wb,wo,none⟩) 13 wc2)/\∀k,k<13->w'.cell? ⟨wb,wo+k,none⟩=some (S (Lfc.words.getD k [])))
     (first | exact⟨hw1,HWK.o⟩ | exact words_oth o5 hgl (Nat.lt_trans hwb hl4) (Nat.ne_of_lt hwg) (Nat.ne_of_lt hwb) ⟨hw1,HWK.o⟩ | exact words_set (Nat.ne_of_gt (Nat.lt_trans hwg hTr)) (Nat.ne_of_gt (Nat.lt_trans hwb hTr)) (words_oth o5 hgl (Nat.lt_trans hwb hl4) (Nat.ne_of_lt hwg) (Nat.ne_of_lt hwb) ⟨hw1,HWK.o⟩))
     (first | (go_at_call 32;refine(tapeNext_any T 10 _ (by omega) (by omega) (T4.o.below (zB _ _).drew)).mono ?_;rintro e w5⟨⟨r5,hr5,rfl⟩,T5,o5⟩;have hb6:r5<13:=Nat.lt_trans hr5 (by decide);have hx5:=(o5.cell (p:=⟨wb,wo+r5,none⟩) (Nat.lt_trans hwb hl4) (Nat.ne_of_lt hwb)).trans (HWK.o r5 hb6);have q5:=o5.heap Q4.o (Nat.ne_of_gt hTr);have f5:=zF q5 1;have y5:=zC q5 1;have hb5:(r5:Int)<13:=Int.ofNat_lt.2 hb6))
    go_wp2_with fail;have T5h:=zH T5;have hx6:=words_name r5 hr5;have hx7:=words_len r5;have hx8:=words_short r5 hr5;rw[List.getD_eq_getElem?_getD] at hx6 hx7 hx8;go_meet
   ·refine⟨1,(r3:Int),Lfc.words[r5]?.getD [],[],none,0,zH ?_,zH ⟨fun h=>absurd rfl h,by omega,zN _,?_,HP.o,Nat.zero_le _⟩,zH (T5h.o.oth hTr (Oth.set _ _)),zH ((O4.o.trans ((Oth.refl _ _).drew.trans o5)).of_new ((zB _ _).setCell (p:=⟨w3.heap.size,1,none⟩) O3.o.size _))⟩
    ·simp[World.setCell,zM,q5]
    simp[Raw.fs,Raw.fss,formedS,formed,hx6,hx8]
   refine⟨2,(r3:Int),Lfc.words[r5]?.getD [],[],none,0,zH ?_,zH ⟨fun h=>absurd rfl h,by omega,zN _,?_,HP.o,Nat.zero_le _⟩,zH (T5h.o.oth hTr (Oth.set _ _)),zH ((O4.o.trans ((Oth.refl _ _).drew.trans o5)).of_new ((zB _ _).setCell (p:=⟨w3.heap.size,1,none⟩) O3.o.size _))⟩
   ·simp[World.setCell,zM,q5]
   simp[Raw.fs,Raw.fss,formedS,formed,hx6,hx8]
  by_cases hkB:kk=3\/kk=4
  ·rcases hkB with rfl | rfl
   ·go_wp2_with fail;go_meet;exact⟨3,(r3:Int),[],[],none,0,Q4,zH ⟨fun h=>absurd rfl h,by simp,zN _,by simp[Raw.fs,Raw.fss,formedS,formed],HP.o,Nat.zero_le _⟩,T4,O4⟩
   go_wp2_with fail;go_meet;exact⟨4,(r3:Int),[],[],none,0,Q4,zH ⟨fun h=>absurd rfl h,by simp,zN _,by simp[Raw.fs,Raw.fss,formedS,formed],HP.o,Nat.zero_le _⟩,T4,O4⟩
  obtain⟨m,hm⟩:∃m,d=m+1:=⟨d-1,by omega⟩;have hdm:(d:Int)-1=(m:Int):=by omega
  have IHm:Hid (RawUptoS m):=zH (by have:=IH.o (by omega);rw[hm] at this;simpa using this);have HM:=zH hm;have hm20:m<=20:=by omega
  clear hm;by_cases hkC:kk=5\/kk=6\/kk=9
  ·rcases hkC with rfl | rfl | rfl;all_goals
    go_wp2_with fail;refine(IHm.o T w4 T4.o).mono ?_;rintro e w5⟨⟨t5,v5,rfl,hv5,hf5,hs5,hd5⟩,T5',o5'⟩;obtain⟨k5,n5,p5,ts5⟩:=t5;obtain⟨A5,c5,rfl,hp5⟩:=hv5.open_;have T5:=zH T5';have O5:=zH o5';have HP5:=zH hp5;have hs5':=o5'.size;have hT5:=T5'.lt;have H5:=zJ hf5 (And.intro hs5 hd5);clear T5' o5' hp5 hv5 hf5 hs5 hd5;go_upto_region 13 with fail;obtain⟨w6,hw6⟩:∃w6,w5.alloc (.cells #[zI k5,S n5,zI p5,.slice A5 ts5.length c5] 46)=w6:=⟨_,rfl⟩;rw[hw6];have b6:=zG hw6;have q6:=zQ hw6;have hs6:=eq2 (show w6.heap.size=w5.heap.size+1 by rw[<-hw6];simp);have T6:=zH (T5.o.below b6);have B6:=zH b6;have x0:w6.cell? ⟨w5.heap.size,0,none⟩=some (zI k5):=zC q6 0;have x1:w6.cell? ⟨w5.heap.size,1,none⟩=some (S n5):=zC q6 1;have x2:w6.cell? ⟨w5.heap.size,2,none⟩=some (zI p5):=zC q6 2;have x3:w6.cell? ⟨w5.heap.size,3,none⟩=some (.slice A5 ts5.length c5):=zC q6 3;have h5T:w5.heap.size≠T:=(by omega);have h56:w5.heap.size<w6.heap.size:=by omega
   ·have hr6:w6.heap[w3.heap.size]?=some (.cells #[zI 5,S [],zI (r3:Int),zS] 46 (0,0)):=(b6.block _ (by omega)).trans (O5.o.heap Q4.o (by omega));have HR6:=zH hr6;have hrT:w3.heap.size≠T:=(by omega);have Q6:=zH q6;have h5r:w5.heap.size≠w3.heap.size:=(by omega);clear hw6 b6 q6 hr6;have hdw:IntKind.i64.wrap (m:Int)=(m:Int):=Zi _ ⟨by omega,by omega⟩;go_region_held3 (fun w'=>w'.cell? ⟨w5.heap.size,0,none⟩=some (zI k5)/\w'.cell? ⟨w5.heap.size,1,none⟩=some (S n5)/\w'.cell? ⟨w5.heap.size,2,none⟩=some (zI p5)/\w'.cell? ⟨w5.heap.size,3,none⟩=some (.slice A5 ts5.length c5))
     (first | exact cells4 Q6.o | exact cells4 (o7.heap Q6.o h5T) | exact cells4 (heap_alloc_old _ _ _ _ (o7.heap Q6.o h5T)) | exact cells4 ((Below.heap_setCell _ _ _ _ h5r).trans (heap_alloc_old _ _ _ _ (o7.heap Q6.o h5T))))
     (first | (go_at_call 13;refine(IHm.o T _ (T6.o.below (zB _ _).drew)).mono ?_;rintro e w7⟨⟨t7,v7,rfl,hv7,hf7,hs7',hd7⟩,T7,o7⟩;obtain⟨k7,n7,p7,ts7⟩:=t7;obtain⟨A7,c7,rfl,hp7⟩:=hv7.open_;have q7:=o7.heap HR6.o hrT;have f7:=zF q7 3;have y7:w7.cell? ⟨w3.heap.size,3,none⟩=some zS:=zC q7 3;have y8:∀o,(w7.alloc o).cell? ⟨w3.heap.size,3,none⟩=some zS:=fun o=>zC (heap_alloc_old w7 o _ _ q7) 3;have f8:∀o,(w7.alloc o).frozen? ⟨w3.heap.size,3,none⟩=false:=fun o=>zF (heap_alloc_old w7 o _ _ q7) 3))
    go_wp2_with fail;have hs7:w6.heap.size<=w7.heap.size:=o7.size;have h7:=zJ hf7 (And.intro hs7' hd7);have HP7:=zH hp7;go_meet;refine⟨5,(r3:Int),[],[.node k5 n5 p5 ts5,.node k7 n7 p7 ts7],_,2,zH (set3 (heap_alloc_old _ _ _ _ q7)),zH ⟨pair_final (by omega) hsz3 (by omega) hs5' B6.o o7 HP5.o HP7.o,by simp,zN _,?_,?_,?_⟩,zH ((T7.below ((zB _ _).alloc (zN _) _)).oth hTr (Oth.set _ _)),zH ((((O4.o.trans O5.o).trans (zE B6.o)).trans ((Oth.refl _ _).drew.trans o7)).of_new (((zB _ _).alloc (by have:=O4.o.size;omega) _).setCell (p:=⟨w3.heap.size,3,none⟩) O3.o.size _))⟩
    ·rw[Raw.fs,Raw.fss,Raw.fss,Raw.fss,H5.o.1,h7.o.1];rfl
    ·have e1:=H5.o.2.1;have e2:=h7.o.2.1;have e3:2 ^ (d+1)=2*2 ^ (m+1):=(by rw[HM.o,Nat.pow_succ];omega);simp only[Raw.sizes];omega
    have e1:=H5.o.2.2;have e2:=h7.o.2.2;have e3:=HM.o;simp only[Raw.depths];omega
   ·have hr6:w6.heap[w3.heap.size]?=some (.cells #[zI 6,S [],zI (r3:Int),zS] 46 (0,0)):=(b6.block _ (by omega)).trans (O5.o.heap Q4.o (by omega));have HR6:=zH hr6;have hrT:w3.heap.size≠T:=(by omega);have Q6:=zH q6;have h5r:w5.heap.size≠w3.heap.size:=(by omega);clear hw6 b6 q6 hr6;have hdw:IntKind.i64.wrap (m:Int)=(m:Int):=Zi _ ⟨by omega,by omega⟩;go_region_held3 (fun w'=>w'.cell? ⟨w5.heap.size,0,none⟩=some (zI k5)/\w'.cell? ⟨w5.heap.size,1,none⟩=some (S n5)/\w'.cell? ⟨w5.heap.size,2,none⟩=some (zI p5)/\w'.cell? ⟨w5.heap.size,3,none⟩=some (.slice A5 ts5.length c5))
     (first | exact cells4 Q6.o | exact cells4 (o7.heap Q6.o h5T) | exact cells4 (heap_alloc_old _ _ _ _ (o7.heap Q6.o h5T)) | exact cells4 ((Below.heap_setCell _ _ _ _ h5r).trans (heap_alloc_old _ _ _ _ (o7.heap Q6.o h5T))))
     (first | (go_at_call 13;refine(IHm.o T _ (T6.o.below (zB _ _).drew)).mono ?_;rintro e w7⟨⟨t7,v7,rfl,hv7,hf7,hs7',hd7⟩,T7,o7⟩;obtain⟨k7,n7,p7,ts7⟩:=t7;obtain⟨A7,c7,rfl,hp7⟩:=hv7.open_;have q7:=o7.heap HR6.o hrT;have f7:=zF q7 3;have y7:w7.cell? ⟨w3.heap.size,3,none⟩=some zS:=zC q7 3;have y8:∀o,(w7.alloc o).cell? ⟨w3.heap.size,3,none⟩=some zS:=fun o=>zC (heap_alloc_old w7 o _ _ q7) 3;have f8:∀o,(w7.alloc o).frozen? ⟨w3.heap.size,3,none⟩=false:=fun o=>zF (heap_alloc_old w7 o _ _ q7) 3))
    go_wp2_with fail;have hs7:w6.heap.size<=w7.heap.size:=o7.size;have h7:=zJ hf7 (And.intro hs7' hd7);have HP7:=zH hp7;go_meet;refine⟨6,(r3:Int),[],[.node k5 n5 p5 ts5,.node k7 n7 p7 ts7],_,2,zH (set3 (heap_alloc_old _ _ _ _ q7)),zH ⟨pair_final (by omega) hsz3 (by omega) hs5' B6.o o7 HP5.o HP7.o,by simp,zN _,?_,?_,?_⟩,zH ((T7.below ((zB _ _).alloc (zN _) _)).oth hTr (Oth.set _ _)),zH ((((O4.o.trans O5.o).trans (zE B6.o)).trans ((Oth.refl _ _).drew.trans o7)).of_new (((zB _ _).alloc (by have:=O4.o.size;omega) _).setCell (p:=⟨w3.heap.size,3,none⟩) O3.o.size _))⟩
    ·rw[Raw.fs,Raw.fss,Raw.fss,Raw.fss,H5.o.1,h7.o.1];rfl
    ·have e1:=H5.o.2.1;have e2:=h7.o.2.1;have e3:2 ^ (d+1)=2*2 ^ (m+1):=(by rw[HM.o,Nat.pow_succ];omega);simp only[Raw.sizes];omega
    have e1:=H5.o.2.2;have e2:=h7.o.2.2;have e3:=HM.o;simp only[Raw.depths];omega
   have hr6:w6.heap[w3.heap.size]?=some (.cells #[zI 9,S [],zI (r3:Int),zS] 46 (0,0)):=(b6.block _ (by omega)).trans (O5.o.heap Q4.o (by omega));have HR6:=zH hr6;have hrT:w3.heap.size≠T:=(by omega);have Q6:=zH q6;have h5r:w5.heap.size≠w3.heap.size:=(by omega);clear hw6 b6 q6 hr6;have hdw:IntKind.i64.wrap (m:Int)=(m:Int):=Zi _ ⟨by omega,by omega⟩;go_region_held3 (fun w'=>w'.cell? ⟨w5.heap.size,0,none⟩=some (zI k5)/\w'.cell? ⟨w5.heap.size,1,none⟩=some (S n5)/\w'.cell? ⟨w5.heap.size,2,none⟩=some (zI p5)/\w'.cell? ⟨w5.heap.size,3,none⟩=some (.slice A5 ts5.length c5))
    (first | exact cells4 Q6.o | exact cells4 (o7.heap Q6.o h5T) | exact cells4 (heap_alloc_old _ _ _ _ (o7.heap Q6.o h5T)) | exact cells4 ((Below.heap_setCell _ _ _ _ h5r).trans (heap_alloc_old _ _ _ _ (o7.heap Q6.o h5T))))
    (first | (go_at_call 13;refine(IHm.o T _ (T6.o.below (zB _ _).drew)).mono ?_;rintro e w7⟨⟨t7,v7,rfl,hv7,hf7,hs7',hd7⟩,T7,o7⟩;obtain⟨k7,n7,p7,ts7⟩:=t7;obtain⟨A7,c7,rfl,hp7⟩:=hv7.open_;have q7:=o7.heap HR6.o hrT;have f7:=zF q7 3;have y7:w7.cell? ⟨w3.heap.size,3,none⟩=some zS:=zC q7 3;have y8:∀o,(w7.alloc o).cell? ⟨w3.heap.size,3,none⟩=some zS:=fun o=>zC (heap_alloc_old w7 o _ _ q7) 3;have f8:∀o,(w7.alloc o).frozen? ⟨w3.heap.size,3,none⟩=false:=fun o=>zF (heap_alloc_old w7 o _ _ q7) 3))
   go_wp2_with fail;have hs7:w6.heap.size<=w7.heap.size:=o7.size;have h7:=zJ hf7 (And.intro hs7' hd7);have HP7:=zH hp7;go_meet;refine⟨9,(r3:Int),[],[.node k5 n5 p5 ts5,.node k7 n7 p7 ts7],_,2,zH (set3 (heap_alloc_old _ _ _ _ q7)),zH ⟨pair_final (by omega) hsz3 (by omega) hs5' B6.o o7 HP5.o HP7.o,by simp,zN _,?_,?_,?_⟩,zH ((T7.below ((zB _ _).alloc (zN _) _)).oth hTr (Oth.set _ _)),zH ((((O4.o.trans O5.o).trans (zE B6.o)).trans ((Oth.refl _ _).drew.trans o7)).of_new (((zB _ _).alloc (by have:=O4.o.size;omega) _).setCell (p:=⟨w3.heap.size,3,none⟩) O3.o.size _))⟩
   ·rw[Raw.fs,Raw.fss,Raw.fss,Raw.fss,H5.o.1,h7.o.1];rfl
   ·have e1:=H5.o.2.1;have e2:=h7.o.2.1;have e3:2 ^ (d+1)=2*2 ^ (m+1):=(by rw[HM.o,Nat.pow_succ];omega);simp only[Raw.sizes];omega
   have e1:=H5.o.2.2;have e2:=h7.o.2.2;have e3:=HM.o;simp only[Raw.depths];omega
  obtain⟨i0,hi,hz0,hz1,hz2⟩:=raw_info;rcases(show kk=7\/kk=8 by omega) with rfl | rfl;all_goals
   obtain⟨w5,hw5⟩:∃w5,w4.alloc (.cells #[S [97],S [78],S [120],S [95]] 9)=w5:=⟨_,rfl⟩;have b5:=zG hw5;have q5:=zQ hw5;have hs5:=eq2 (show w5.heap.size=w4.heap.size+1 by rw[<-hw5];simp);have T5:=zH (T4.o.below b5);have B5:=zH b5;have Q5:=zH q5;clear b5 q5;go_wp2_with fail;refine(tapeNext_any T 4 w5 (by omega) (by omega) T5.o).mono ?_;clear hw5;rintro e w6⟨⟨r6,hr6,rfl⟩,T6',o6'⟩;have hs6:=o6'.size;obtain⟨nm,hnm1,hnm2,hx6⟩:=names4 r6 hr6 (o6'.heap Q5.o (by omega));have hq6:=o6'.heap ((B5.o.block _ (by omega)).trans Q4.o) (show w3.heap.size≠T by omega);have y6:w6.cell? ⟨w3.heap.size,1,none⟩=some (S []):=zC hq6 1;have f6:=zF hq6 1;obtain⟨w7,hw7⟩:∃w7,w6.setCell ⟨w3.heap.size,1,none⟩ (S nm)=w7:=⟨_,rfl⟩
  ·have q7:w7.heap[w3.heap.size]?=some (.cells #[zI 7,S nm,zI (r3:Int),zS] 46 (0,0)):=(by rw[<-hw7];exact set1 hq6);have hs7:=eq2 (show w7.heap.size=w6.heap.size by rw[<-hw7];simp[World.setCell]);have T7:Hid (TapeAt T w7):=zH (by rw[<-hw7];exact T6'.oth hTr (Oth.set _ _));have O7:Hid (Oth T wa w7):=zH (by rw[<-hw7];exact((O4.o.trans (zE B5.o)).trans o6').of_new ((zB _ _).setCell (p:=⟨w3.heap.size,1,none⟩) O3.o.size _));have Q7:=zH q7;have HNM:=zJ hnm1 hnm2;have hb6:(r6:Int)<4:=(by omega);clear T6' o6' hq6 q7 hnm1 hnm2;go_wp2_with fail;clear hw7;refine(tapeNext_any T 3 w7 (by omega) (by omega) T7.o).mono ?_;rintro e w8⟨⟨r8,hr8,rfl⟩,T8',o8'⟩;have T8:=zH T8';have O8:=zH (O7.o.trans o8');have Q8:=zH (o8'.heap Q7.o (show w3.heap.size≠T by omega));have hs8:=o8'.size;clear T8' o8';go_upto_if 58 with fail;have hsz3':w.heap.size<w4.heap.size:=(by omega);generalize decide (0<r8)=bc;go_cut [] (fun wx=>∃(ts:List Raw)(A:Option Addr)(c:Nat)(xs:List Value),Hid (wx.heap[w3.heap.size]?=some (.cells #[zI 7,S nm,zI (r3:Int),.slice A ts.length c] 46 (0,0)))/\Hid (wx.ownsRow w4.heap.size 46 4 (.slice A ts.length c) ts.length xs)/\Hid (RowP (fun b=>w4.heap.size<=b/\some b≠(Value.slice A ts.length c).ownBlock) wx ts xs)/\Hid (TapeAt T wx)/\Hid (Oth T wa wx)/\w4.heap.size<=wx.heap.size/\ts.length<=1/\Hid (Raw.fss ts=true/\Raw.sizes ts+1<=2 ^ (m+1)/\Raw.depths ts<=m+1));case first =>
    have hm1:=Nat.one_le_two_pow (n:=m+1);have HM1:=zH hm1;clear hm1;cases bc;case false =>
     go_wp2_with fail;go_meet;exact⟨[],none,0,[],Q8,zH (own_nil _ _ _ _),zH rfl,T8,O8,by omega,by simp,zH ⟨rfl,by simp only[Raw.sizes];have:=HM1.o;omega,Nat.zero_le _⟩⟩
    case true =>
     obtain⟨ts,A,c,xs,HR,HOWN,HROW,TX,OX,hbx,hl1,HZ⟩:∃(ts:List Raw)(A:Option Addr)(c:Nat)(xs:List Value),Hid (w8.heap[w3.heap.size]?=some (.cells #[zI 7,S nm,zI (r3:Int),.slice A ts.length c] 46 (0,0)))/\Hid (w8.ownsRow w4.heap.size 46 4 (.slice A ts.length c) ts.length xs)/\Hid (RowP (fun b=>w4.heap.size<=b/\some b≠(Value.slice A ts.length c).ownBlock) w8 ts xs)/\Hid (TapeAt T w8)/\Hid (Oth T wa w8)/\w4.heap.size<=w8.heap.size/\ts.length<=0/\Hid (ts=[]):=⟨[],none,0,[],Q8,zH (own_nil _ _ _ _),zH rfl,T8,O8,by omega,by simp,zH rfl⟩;go_wp2_with fail;have hrT:w3.heap.size≠T:=(by omega);have hTow:(Value.slice A ts.length c).ownBlock=some T->False:=fun e=>(by have:=(HOWN.o.lt T e).1;omega);have yx:w8.cell? ⟨w3.heap.size,3,none⟩=some (.slice A ts.length c):=zC HR.o 3;have hlm:ts.length+1<=maxLen:=(by unfold maxLen;omega);have hl56:(ts.length+1)*56<=140737488355328:=(by omega);have hr3w:w3.heap.size<w4.heap.size:=(by omega);have hwa3:=O3.o.size;have hdw:IntKind.i64.wrap (m:Int)=(m:Int):=Zi _ ⟨by omega,by omega⟩;go_region_law (first
      |(go_simp;go_at_call 13;refine(IHm.o T _ (TX.o.below (zB _ _).drew)).mono ?_;rintro e w9⟨⟨t9,v9,rfl,hv9,hf9,hs9,hd9⟩,T9,o9⟩;obtain⟨k9,n9,p9,ts9⟩:=t9;obtain⟨A9,c9,rfl,hp9⟩:=hv9.open_;have q9:=o9.heap HR.o hrT;have y9:w9.cell? ⟨w3.heap.size,3,none⟩=some (.slice A ts.length c):=zC q9 3;have y9a:∀o,(w9.alloc o).cell? ⟨w3.heap.size,3,none⟩=some (.slice A ts.length c):=fun o=>zC (heap_alloc_old w9 o _ _ q9) 3;have hown9:=HOWN.o.drew.kept o9 (Or.inr hTow);have hs9':w4.heap.size<=w9.heap.size:=zR hbx o9.size)
      |(refine step_append_own_at _ (by rfl) _ _ 32 (by rfl) w4.heap.size 46 i0 (.agg #[zI 0,S [],zI 0,zS]) 4 56 Tryz.underlying32 hi hz0 hz1 hz2 rfl (by decide) _ _ _ (by rfl) (hown9.alloc _) ⟨w9.heap.size,0,none⟩ 1 1 [zI k9,S n9,zI p9,.slice A9 ts9.length c9] (by rfl) (by rfl) (fun j u h=>cells_new w9 _ rfl [zI k9,S n9,zI p9,.slice A9 ts9.length c9] _ j u h) oneCell4 hlm hl56 (alloc_le hs9') ?_;intro v' w10 hown10 hg10 hloc10;obtain⟨A10,c10,rfl⟩:=own_form hown10;obtain⟨hr10,hfin⟩:=binder_final hr3w hTr hbx hwa3 HR.o HOWN.o HROW.o OX.o o9 T9 hp9 hown10 hg10 (alloc_loc hloc10);have y10:=(zC hr10 3:w10.cell? ⟨w3.heap.size,3,none⟩=some (.slice A ts.length c));have f10:=zF hr10 3))
     all_goals
      go_wp2_with fail;go_meet;refine⟨ts++[.node k9 n9 p9 ts9],A10,c10,xs++[zI k9,S n9,zI p9,.slice A9 ts9.length c9],zH (by rw[Zq];exact hfin.1),zH (by rw[Zq];rw[Zq] at hfin;exact hfin.2.1),zH (by rw[Zq];exact hfin.2.2.1),zH hfin.2.2.2.1,zH hfin.2.2.2.2.1,hfin.2.2.2.2.2,by rw[HZ.o];simp,zH ?_⟩;rw[HZ.o];simp only[List.nil_append,Raw.fss,Raw.sizes,Raw.depths,hf9];exact⟨rfl,by omega,by omega⟩
   obtain⟨ts,A,c,xs,HR,HOWN,HROW,TX,OX,hbx,hl1,HF⟩:=hcut;rename_i wy;go_wp2_with fail;have hrT:w3.heap.size≠T:=(by omega);have hTow:(Value.slice A ts.length c).ownBlock=some T->False:=fun e=>(by have:=(HOWN.o.lt T e).1;omega);have yx:wc.cell? ⟨w3.heap.size,3,none⟩=some (.slice A ts.length c):=zC HR.o 3;have hlm:ts.length+1<=maxLen:=(by unfold maxLen;omega);have hl56:(ts.length+1)*56<=140737488355328:=(by omega);have hr3w:w3.heap.size<w4.heap.size:=(by omega);have hwa3:=O3.o.size;have hdw:IntKind.i64.wrap (m:Int)=(m:Int):=Zi _ ⟨by omega,by omega⟩;go_region_law (first
    |(go_simp;go_at_call 13;refine(IHm.o T _ (TX.o.below (zB _ _).drew)).mono ?_;rintro e w9⟨⟨t9,v9,rfl,hv9,hf9,hs9,hd9⟩,T9,o9⟩;obtain⟨k9,n9,p9,ts9⟩:=t9;obtain⟨A9,c9,rfl,hp9⟩:=hv9.open_;have q9:=o9.heap HR.o hrT;have y9:w9.cell? ⟨w3.heap.size,3,none⟩=some (.slice A ts.length c):=zC q9 3;have y9a:∀o,(w9.alloc o).cell? ⟨w3.heap.size,3,none⟩=some (.slice A ts.length c):=fun o=>zC (heap_alloc_old w9 o _ _ q9) 3;have hown9:=HOWN.o.drew.kept o9 (Or.inr hTow);have hs9':w4.heap.size<=w9.heap.size:=zR hbx o9.size)
    |(refine step_append_own_at _ (by rfl) _ _ 32 (by rfl) w4.heap.size 46 i0 (.agg #[zI 0,S [],zI 0,zS]) 4 56 Tryz.underlying32 hi hz0 hz1 hz2 rfl (by decide) _ _ _ (by rfl) (hown9.alloc _) ⟨w9.heap.size,0,none⟩ 1 1 [zI k9,S n9,zI p9,.slice A9 ts9.length c9] (by rfl) (by rfl) (fun j u h=>cells_new w9 _ rfl [zI k9,S n9,zI p9,.slice A9 ts9.length c9] _ j u h) oneCell4 hlm hl56 (alloc_le hs9') ?_;intro v' w10 hown10 hg10 hloc10;obtain⟨A10,c10,rfl⟩:=own_form hown10;obtain⟨hr10,hfin⟩:=binder_final hr3w hTr hbx hwa3 HR.o HOWN.o HROW.o OX.o o9 T9 hp9 hown10 hg10 (alloc_loc hloc10);have y10:=(zC hr10 3:w10.cell? ⟨w3.heap.size,3,none⟩=some (.slice A ts.length c));have f10:=zF hr10 3))
   all_goals
    go_wp2_with fail;have hbt:=binder_trees hsz3' (by rw[Zq] at hfin;rw[Zq];exact hfin.2.1) (by rw[Zq];exact hfin.2.2.1);go_meet;refine⟨7,(r3:Int),nm,ts++[.node k9 n9 p9 ts9],A10,c10,zH (by rw[Zq];exact hfin.1),zH ⟨hbt.1,by have:=HNM.o.2;omega,hbt.2,?_,?_,?_⟩,zH hfin.2.2.2.1,zH hfin.2.2.2.2.1⟩
    ·rw[Raw.fs,fss_app,HF.o.1];simp only[Raw.fss,hf9,Zq,List.length_singleton,Bool.and_true];exact binder_formedS (by decide) HNM.o.1 HNM.o.2 (by omega)
    ·have e1:=HF.o.2.1;have e3:2 ^ (d+1)=2*2 ^ (m+1):=(by rw[HM.o,Nat.pow_succ];omega);rw[Raw.sizes_app];simp only[Raw.sizes];omega
    have e1:=HF.o.2.2;have e3:=HM.o;rw[Raw.depths_app];simp only[Raw.depths];omega
  have q7:w7.heap[w3.heap.size]?=some (.cells #[zI 8,S nm,zI (r3:Int),zS] 46 (0,0)):=by rw[<-hw7];exact set1 hq6
  have hs7:=eq2 (show w7.heap.size=w6.heap.size by rw[<-hw7];simp[World.setCell]);have T7:Hid (TapeAt T w7):=zH (by rw[<-hw7];exact T6'.oth hTr (Oth.set _ _));have O7:Hid (Oth T wa w7):=zH (by rw[<-hw7];exact((O4.o.trans (zE B5.o)).trans o6').of_new ((zB _ _).setCell (p:=⟨w3.heap.size,1,none⟩) O3.o.size _));have Q7:=zH q7;have HNM:=zJ hnm1 hnm2;have hb6:(r6:Int)<4:=by omega
  clear T6' o6' hq6 q7 hnm1 hnm2;go_wp2_with fail;clear hw7;refine(tapeNext_any T 3 w7 (by omega) (by omega) T7.o).mono ?_;rintro e w8⟨⟨r8,hr8,rfl⟩,T8',o8'⟩;have T8:=zH T8';have O8:=zH (O7.o.trans o8');have Q8:=zH (o8'.heap Q7.o (show w3.heap.size≠T by omega));have hs8:=o8'.size;clear T8' o8';go_upto_if 58 with fail;have hsz3':w.heap.size<w4.heap.size:=by omega
  generalize decide (0<r8)=bc;go_cut [] (fun wx=>∃(ts:List Raw)(A:Option Addr)(c:Nat)(xs:List Value),Hid (wx.heap[w3.heap.size]?=some (.cells #[zI 8,S nm,zI (r3:Int),.slice A ts.length c] 46 (0,0)))/\Hid (wx.ownsRow w4.heap.size 46 4 (.slice A ts.length c) ts.length xs)/\Hid (RowP (fun b=>w4.heap.size<=b/\some b≠(Value.slice A ts.length c).ownBlock) wx ts xs)/\Hid (TapeAt T wx)/\Hid (Oth T wa wx)/\w4.heap.size<=wx.heap.size/\ts.length<=1/\Hid (Raw.fss ts=true/\Raw.sizes ts+1<=2 ^ (m+1)/\Raw.depths ts<=m+1));case first =>
   have hm1:=Nat.one_le_two_pow (n:=m+1);have HM1:=zH hm1;clear hm1;cases bc;case false =>
    go_wp2_with fail;go_meet;exact⟨[],none,0,[],Q8,zH (own_nil _ _ _ _),zH rfl,T8,O8,by omega,by simp,zH ⟨rfl,by simp only[Raw.sizes];have:=HM1.o;omega,Nat.zero_le _⟩⟩
   case true =>
    obtain⟨ts,A,c,xs,HR,HOWN,HROW,TX,OX,hbx,hl1,HZ⟩:∃(ts:List Raw)(A:Option Addr)(c:Nat)(xs:List Value),Hid (w8.heap[w3.heap.size]?=some (.cells #[zI 8,S nm,zI (r3:Int),.slice A ts.length c] 46 (0,0)))/\Hid (w8.ownsRow w4.heap.size 46 4 (.slice A ts.length c) ts.length xs)/\Hid (RowP (fun b=>w4.heap.size<=b/\some b≠(Value.slice A ts.length c).ownBlock) w8 ts xs)/\Hid (TapeAt T w8)/\Hid (Oth T wa w8)/\w4.heap.size<=w8.heap.size/\ts.length<=0/\Hid (ts=[]):=⟨[],none,0,[],Q8,zH (own_nil _ _ _ _),zH rfl,T8,O8,by omega,by simp,zH rfl⟩;go_wp2_with fail;have hrT:w3.heap.size≠T:=(by omega);have hTow:(Value.slice A ts.length c).ownBlock=some T->False:=fun e=>(by have:=(HOWN.o.lt T e).1;omega);have yx:w8.cell? ⟨w3.heap.size,3,none⟩=some (.slice A ts.length c):=zC HR.o 3;have hlm:ts.length+1<=maxLen:=(by unfold maxLen;omega);have hl56:(ts.length+1)*56<=140737488355328:=(by omega);have hr3w:w3.heap.size<w4.heap.size:=(by omega);have hwa3:=O3.o.size;have hdw:IntKind.i64.wrap (m:Int)=(m:Int):=Zi _ ⟨by omega,by omega⟩;go_region_law (first
     |(go_simp;go_at_call 13;refine(IHm.o T _ (TX.o.below (zB _ _).drew)).mono ?_;rintro e w9⟨⟨t9,v9,rfl,hv9,hf9,hs9,hd9⟩,T9,o9⟩;obtain⟨k9,n9,p9,ts9⟩:=t9;obtain⟨A9,c9,rfl,hp9⟩:=hv9.open_;have q9:=o9.heap HR.o hrT;have y9:w9.cell? ⟨w3.heap.size,3,none⟩=some (.slice A ts.length c):=zC q9 3;have y9a:∀o,(w9.alloc o).cell? ⟨w3.heap.size,3,none⟩=some (.slice A ts.length c):=fun o=>zC (heap_alloc_old w9 o _ _ q9) 3;have hown9:=HOWN.o.drew.kept o9 (Or.inr hTow);have hs9':w4.heap.size<=w9.heap.size:=zR hbx o9.size)
     |(refine step_append_own_at _ (by rfl) _ _ 32 (by rfl) w4.heap.size 46 i0 (.agg #[zI 0,S [],zI 0,zS]) 4 56 Tryz.underlying32 hi hz0 hz1 hz2 rfl (by decide) _ _ _ (by rfl) (hown9.alloc _) ⟨w9.heap.size,0,none⟩ 1 1 [zI k9,S n9,zI p9,.slice A9 ts9.length c9] (by rfl) (by rfl) (fun j u h=>cells_new w9 _ rfl [zI k9,S n9,zI p9,.slice A9 ts9.length c9] _ j u h) oneCell4 hlm hl56 (alloc_le hs9') ?_;intro v' w10 hown10 hg10 hloc10;obtain⟨A10,c10,rfl⟩:=own_form hown10;obtain⟨hr10,hfin⟩:=binder_final hr3w hTr hbx hwa3 HR.o HOWN.o HROW.o OX.o o9 T9 hp9 hown10 hg10 (alloc_loc hloc10);have y10:=(zC hr10 3:w10.cell? ⟨w3.heap.size,3,none⟩=some (.slice A ts.length c));have f10:=zF hr10 3))
    all_goals
     go_wp2_with fail;go_meet;refine⟨ts++[.node k9 n9 p9 ts9],A10,c10,xs++[zI k9,S n9,zI p9,.slice A9 ts9.length c9],zH (by rw[Zq];exact hfin.1),zH (by rw[Zq];rw[Zq] at hfin;exact hfin.2.1),zH (by rw[Zq];exact hfin.2.2.1),zH hfin.2.2.2.1,zH hfin.2.2.2.2.1,hfin.2.2.2.2.2,by rw[HZ.o];simp,zH ?_⟩;rw[HZ.o];simp only[List.nil_append,Raw.fss,Raw.sizes,Raw.depths,hf9];exact⟨rfl,by omega,by omega⟩
  obtain⟨ts,A,c,xs,HR,HOWN,HROW,TX,OX,hbx,hl1,HF⟩:=hcut;rename_i wy;go_wp2_with fail;have hrT:w3.heap.size≠T:=by omega
  have hTow:(Value.slice A ts.length c).ownBlock=some T->False:=fun e=>by have:=(HOWN.o.lt T e).1;omega
  have yx:wc.cell? ⟨w3.heap.size,3,none⟩=some (.slice A ts.length c):=zC HR.o 3;have hlm:ts.length+1<=maxLen:=by unfold maxLen;omega
  have hl56:(ts.length+1)*56<=140737488355328:=by omega
  have hr3w:w3.heap.size<w4.heap.size:=by omega
  have hwa3:=O3.o.size;have hdw:IntKind.i64.wrap (m:Int)=(m:Int):=Zi _ ⟨by omega,by omega⟩;go_region_law (first
   |(go_simp;go_at_call 13;refine(IHm.o T _ (TX.o.below (zB _ _).drew)).mono ?_;rintro e w9⟨⟨t9,v9,rfl,hv9,hf9,hs9,hd9⟩,T9,o9⟩;obtain⟨k9,n9,p9,ts9⟩:=t9;obtain⟨A9,c9,rfl,hp9⟩:=hv9.open_;have q9:=o9.heap HR.o hrT;have y9:w9.cell? ⟨w3.heap.size,3,none⟩=some (.slice A ts.length c):=zC q9 3;have y9a:∀o,(w9.alloc o).cell? ⟨w3.heap.size,3,none⟩=some (.slice A ts.length c):=fun o=>zC (heap_alloc_old w9 o _ _ q9) 3;have hown9:=HOWN.o.drew.kept o9 (Or.inr hTow);have hs9':w4.heap.size<=w9.heap.size:=zR hbx o9.size)
   |(refine step_append_own_at _ (by rfl) _ _ 32 (by rfl) w4.heap.size 46 i0 (.agg #[zI 0,S [],zI 0,zS]) 4 56 Tryz.underlying32 hi hz0 hz1 hz2 rfl (by decide) _ _ _ (by rfl) (hown9.alloc _) ⟨w9.heap.size,0,none⟩ 1 1 [zI k9,S n9,zI p9,.slice A9 ts9.length c9] (by rfl) (by rfl) (fun j u h=>cells_new w9 _ rfl [zI k9,S n9,zI p9,.slice A9 ts9.length c9] _ j u h) oneCell4 hlm hl56 (alloc_le hs9') ?_;intro v' w10 hown10 hg10 hloc10;obtain⟨A10,c10,rfl⟩:=own_form hown10;obtain⟨hr10,hfin⟩:=binder_final hr3w hTr hbx hwa3 HR.o HOWN.o HROW.o OX.o o9 T9 hp9 hown10 hg10 (alloc_loc hloc10);have y10:=(zC hr10 3:w10.cell? ⟨w3.heap.size,3,none⟩=some (.slice A ts.length c));have f10:=zF hr10 3))
  all_goals
   go_wp2_with fail;have hbt:=binder_trees hsz3' (by rw[Zq] at hfin;rw[Zq];exact hfin.2.1) (by rw[Zq];exact hfin.2.2.1);go_meet;refine⟨8,(r3:Int),nm,ts++[.node k9 n9 p9 ts9],A10,c10,zH (by rw[Zq];exact hfin.1),zH ⟨hbt.1,by have:=HNM.o.2;omega,hbt.2,?_,?_,?_⟩,zH hfin.2.2.2.1,zH hfin.2.2.2.2.1⟩
   ·rw[Raw.fs,fss_app,HF.o.1];simp only[Raw.fss,hf9,Zq,List.length_singleton,Bool.and_true];exact binder_formedS (by decide) HNM.o.1 HNM.o.2 (by omega)
   ·have e1:=HF.o.2.1;have e3:2 ^ (d+1)=2*2 ^ (m+1):=(by rw[HM.o,Nat.pow_succ];omega);rw[Raw.sizes_app];simp only[Raw.sizes];omega
   have e1:=HF.o.2.2;have e3:=HM.o;rw[Raw.depths_app];simp only[Raw.depths];omega
 obtain⟨k,p,n,ts,A,c,HR,HX,T5,O5⟩:=hcut;have x0:=zC HR.o 0;have x1:=zC HR.o 1;have x2:=zC HR.o 2;have x3:=zC HR.o 3;simp at x0 x1 x2 x3;have RD:=O5.o.heap RA.o hRT;obtain⟨s1,s2,s3,s4,h1,h2,h3,h4,⟨y0,y1,y2,y3⟩,⟨f0,f1,f2,f3⟩,q,oq⟩:=put4 RD (zI k) (S n) (zI p) (.slice A ts.length c);have z0:=zC q 0;have z1:=zC q 1;have z2:=zC q 2;have z3:=zC q 3;simp at z0 z1 z2 z3;have HO:=zH oq;have HQ:=zH q;clear RD q oq;go_wp2_with fail;refine Zb (results_raw rfl _ _ _ _ _ _ _ rfl HQ.o) ?_;have hRs:w.heap.size<wc.heap.size:=zL (O5.o.heap RA.o hRT);refine⟨⟨.node k n p ts,_,rfl,TreeVP.mk HX.o.2.1 HX.o.2.2.1 ?_,HX.o.2.2.2.1,by simp only[Raw.size];have:=HX.o.2.2.2.2.1;omega,by simp only[Raw.depth];have:=HX.o.2.2.2.2.2;omega⟩,T5.o.oth hTlt HO.o,?_⟩
 ·exact HX.o.1.keep (fun b hb hlt=>HO.o.block b hlt (fun e=>by have:=zO e;omega)) HO.o.size (fun b _ hb=>Nat.le_of_lt hb)
 exact((zE BA.o).trans O5.o).of_new ⟨HO.o.os,HO.o.tape,HO.o.output,HO.o.size,fun b hb=>HO.o.block b (by omega) (fun e=>by have:=zO e;omega)⟩
theorem raw_anyS:∀d,d≤20→RawUptoS d
 |0,_=>raw_stepS 0 (by omega) (fun h=>absurd h (by omega))
 |d+1,h=>raw_stepS (d+1) h (fun _=>by simpa using raw_anyS d (by omega))
end Go.Proofs.YthajalgkjonaaaaGreatDoor
