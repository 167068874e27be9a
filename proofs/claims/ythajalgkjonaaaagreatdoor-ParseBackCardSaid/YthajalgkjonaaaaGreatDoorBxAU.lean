/- Parts of the proof that no input makes the law false: PaBkE, PaFm3. -/
import Derived.Test.YthajalgkjonaaaaGreatDoorBxAT
set_option linter.unusedVariables false
set_option linter.unusedSimpArgs false
set_option maxRecDepth 100000
set_option maxHeartbeats 32000000
namespace Lfc
structure MadeI(x:Itm):Prop where
 form:x.formedP=true
 fs:∀t∈x.trees,t.fs=true∧t.size≤15∧t.depth≤4
 type:x.type.length≤1
 value:x.value.length≤1
 name:x.name.length≤10
 op:x.op.name.length≤10
 som:x.som.length≤2∧∀b∈x.som,b.1.length≤10∧b.2.size≤7
 params:x.params.length≤2∧∀b∈x.params,b.1.length≤10∧b.2.size≤7
 blocks:x.blocks.length≤2∧∀b∈x.blocks,b.length≤10
 fams:x.fams.length≤2∧∀b∈x.fams,b.length≤10
 signs:x.signs.length≤3
 orders:x.orders.length≤2∧∀b∈x.orders,b.1.length≤10∧b.2.size≤7
 left:x.left.size≤7
 right:x.right.size≤7
 bad:x.kind=3→x.op.bad=0
theorem fs_wf{t:Raw}(h:t.fs=true∧t.size≤15∧t.depth≤4):t.wf=0∧t.short 60:=by
 obtain⟨h1,h2⟩:=fs_both t.size t (Nat.le_refl _) h.1;exact⟨wf_parts.2 ⟨h1,by omega,by omega⟩,h2⟩
theorem wfTs_zero:∀{l:List Raw},(∀t∈l,t.wf=0)→wfTs l=0
 |[],_=>rfl
 |a :: r,h=>by rw[wfTs,if_neg (by simp[h a List.mem_cons_self]),wfTs_zero fun t ht=>h t (List.mem_cons_of_mem _ ht)]
theorem MadeI.trees{x:Itm}(h:MadeI x):wfTs x.trees=0:=wfTs_zero fun t ht=>(fs_wf (h.fs t ht)).1
def wlen(ws:List (List UInt8)):Nat:=(ws.map fun w=>w.length+1).sum
theorem wlen_nil:wlen []=0:=rfl
theorem wlen_cons(w:List UInt8)(r:List (List UInt8)):wlen (w :: r)=w.length+1+wlen r:=by simp[wlen]
theorem wlen_app(a b:List (List UInt8)):wlen (a++b)=wlen a+wlen b:=by simp[wlen]
theorem join_len:∀ws:List (List UInt8),(joinW ws).length≤wlen ws
 |[]=>by simp[joinW,List.intercalate]
 |[a]=>by simp[joinW,List.intercalate,List.intersperse,wlen]
 |a :: b :: r=>by
  have:=join_len (b :: r);rw[joinW_cons,wlen_cons];simp only[List.length_append,List.length_cons];omega
theorem fmt_len(q:List (List UInt8)){t:Raw}(h:t.fs=true∧t.size≤15∧t.depth≤4):(t.fmt q).length≤t.size*80:=by
 obtain⟨h1,h2⟩:=fs_wf h;unfold Raw.fmt;rw[if_pos h1];exact text_len q 60 t h2
theorem fix_len(f:Int):(fixWord f).length≤12:=by
 unfold fixWord;split
 ·decide
 split
 ·decide
 split
 ·decide
 split <;> decide
mutual
theorem ordW_len:∀(o:Ord)(d:Int),o.ofm d=true→wlen o.words≤6*o.size
 |.node k a ps,d,h=>by
  rw[Ord.ofm] at h;rw[Ord.words,Ord.size];by_cases h1:k=1
  ·rw[if_pos h1] at h ⊢;simp only[Bool.and_eq_true,decide_eq_true_eq] at h;have:=(dec_ok a.toNat (by omega)).2.2.2.1;rw[wlen_cons,wlen_nil];omega
  rw[if_neg h1] at h ⊢;by_cases h2:k=2∨k=3
  ·rw[if_pos h2] at h;simp only[Bool.and_eq_true] at h;have:=ordsW_len ps (d+1) h.2;rw[wlen_cons,wlen_app,wlen_cons,wlen_nil];have e1:(if k=3 then [91] else [123]:List UInt8).length=1:=(by split <;> rfl);have e2:(if k=3 then [93] else [125]:List UInt8).length=1:=(by split <;> rfl);rw[e1,e2];omega
  rw[if_neg h2] at h;cases h
theorem ordsW_len:∀(l:List Ord)(d:Int),Ord.ofms d l=true→wlen (Ord.wordss l)≤6*Ord.sizes l
 |[],_,_=>by simp[Ord.wordss,wlen]
 |a :: r,d,h=>by
  rw[Ord.ofms,Bool.and_eq_true] at h;have h1:=ordW_len a d h.1;have h2:=ordsW_len r d h.2;rw[Ord.wordss,Ord.sizes,wlen_app];omega
end
theorem flat_len{α:Type}(f:α→List (List UInt8))(m:Nat):∀l:List α,(∀x∈l,wlen (f x)≤m)→wlen (l.flatMap f)≤l.length*m
 |[],_=>by simp[wlen]
 |a :: r,h=>by
  have h1:=h a List.mem_cons_self;have h2:=flat_len f m r fun x hx=>h x (List.mem_cons_of_mem _ hx);rw[List.flatMap_cons,wlen_app,List.length_cons,Nat.add_mul,Nat.one_mul];omega
theorem bars_len(m:Nat):∀l:List (List UInt8),(∀x∈l,x.length≤m)→wlen (barsW l)≤l.length*(m+3)
 |[],_=>by simp[barsW,wlen]
 |[a],h=>by have:=h a List.mem_cons_self;simp[barsW,wlen];omega
 |a :: b :: r,h=>by
  have h1:=h a List.mem_cons_self;have h2:=bars_len m (b :: r) fun x hx=>h x (List.mem_cons_of_mem _ hx);rw[barsW]
  ·rw[wlen_cons,wlen_cons,show(a :: b :: r).length=(b :: r).length+1 from rfl,Nat.add_mul,Nat.one_mul];have e:([124]:List UInt8).length=1:=rfl;omega
  intro e;cases e
theorem map_len{α:Type}(f:α→List UInt8)(m:Nat):∀l:List α,(∀x∈l,(f x).length≤m)→wlen (l.map f)≤l.length*(m+1)
 |[],_=>by simp[wlen]
 |a :: r,h=>by
  have h1:=h a List.mem_cons_self;have h2:=map_len f m r fun x hx=>h x (List.mem_cons_of_mem _ hx);rw[List.map_cons,wlen_cons,List.length_cons,Nat.add_mul,Nat.one_mul];omega
theorem opt_len(c:UInt8)(q:List (List UInt8))(l:List Raw)(h:∀t∈l,t.fs=true∧t.size≤15∧t.depth≤4):wlen (optW c q l)≤1300:=by
 cases l with
 |nil=>simp[optW,wlen]
 |cons t r =>
  have ht:=h t List.mem_cons_self;have h1:=fmt_len q ht;have h2:t.size*80≤15*80:=Nat.mul_le_mul_right _ ht.2.1;simp only[optW,wlen_cons,wlen_nil,List.length_cons,List.length_nil];omega
theorem bndsW_len(q:List (List UInt8))(l:List Bnd)(h2:l.length≤2)(h:∀b∈l,b.1.length≤10∧b.2.size≤7)(hf:∀b∈l,b.2.fs=true∧b.2.size≤15∧b.2.depth≤4):wlen (bndsW q l)≤1200:=by
 have:=flat_len (fun b:Bnd=>[[123],b.1,[58],b.2.fmt q,[125]]) 600 l fun b hb=>by
  obtain⟨h1,h2⟩:=h b hb;have h3:=fmt_len q (hf b hb);have h4:b.2.size*80≤7*80:=Nat.mul_le_mul_right _ h2;simp only[wlen_cons,wlen_nil,List.length_cons,List.length_nil];omega
 have:l.length*600≤2*600:=Nat.mul_le_mul_right _ h2;unfold bndsW;omega
theorem MadeI.len{x:Itm}(h:MadeI x)(q:List (List UInt8)):wlen (x.words q)≤3000:=by
 have ht:∀t∈x.type,t.fs=true∧t.size≤15∧t.depth≤4:=fun t ht=>h.fs t (by simp[Itm.trees,ht]);have hv:∀t∈x.value,t.fs=true∧t.size≤15∧t.depth≤4:=fun t ht=>h.fs t (by simp[Itm.trees,ht]);have hs:∀b∈x.som,b.2.fs=true∧b.2.size≤15∧b.2.depth≤4:=fun b hb=>h.fs b.2 (by simp only[Itm.trees,List.map_append,List.mem_append];exact .inr (.inl (List.mem_map_of_mem hb)));have hp:∀b∈x.params,b.2.fs=true∧b.2.size≤15∧b.2.depth≤4:=fun b hb=>h.fs b.2 (by simp only[Itm.trees,List.map_append,List.mem_append];exact .inr (.inr (List.mem_map_of_mem hb)));have hn:=h.name;have hf:=h.form;unfold Itm.formedP at hf;unfold Itm.words Itm.words1;by_cases h123:x.kind=1∨x.kind=2∨x.kind=3
 ·rw[if_pos h123];by_cases h3:x.kind=3
  ·rw[if_pos h3];have hb:=h.bad h3;have h10:=h.op;have hc:0≤x.op.prec∧x.op.prec≤99:=by
    unfold Op.bad at hb;split at hb
    ·cases hb
    split at hb
    ·cases hb
    rename_i h';simp only[Bool.or_eq_true,decide_eq_true_eq,not_or] at h';omega
   have h1:=fix_len x.op.fix;have h2:=(dec_ok x.op.prec.toNat (by omega)).2.2.2.1;simp only[wlen_cons,wlen_nil];omega
  rw[if_neg h3];have h1:=opt_len 58 q x.type ht;have h2:=opt_len 61 q x.value hv;simp only[wlen_app,wlen_cons,wlen_nil];omega
 rw[if_neg h123];rw[if_neg (by omega),if_neg (by omega),if_neg (by omega)] at hf;by_cases h4:x.kind=4
 ·rw[if_pos h4];have h1:=bndsW_len q x.som h.som.1 h.som.2 hs;have h2:=bndsW_len q x.params h.params.1 h.params.2 hp;rw[wlen_app,wlen_app,wlen_cons,wlen_cons,wlen_cons,wlen_cons,wlen_nil];have h3:wlen (if x.som.length=0 then [] else [115,111,109,101] :: bndsW q x.som)≤1205:=by
   split
   ·simp[wlen]
   rw[wlen_cons];simp only[List.length_cons,List.length_nil];omega
  simp only[List.length_cons,List.length_nil];omega
 rw[if_neg h4];rw[if_neg h4] at hf;by_cases h5:x.kind=5
 ·rw[if_pos h5];have h1:=bars_len 10 x.blocks h.blocks.2;have h2:=map_len (fun n:List UInt8=>n) 10 x.fams h.fams.2;rw[List.map_id'] at h2;have h3:=h.blocks.1;have h4:=h.fams.1;simp only[wlen_app,wlen_cons,wlen_nil,List.length_cons,List.length_nil];omega
 rw[if_neg h5];rw[if_neg h5] at hf;by_cases h6:x.kind=6
 ·rw[if_pos h6];have h1:=map_len signW 1 x.signs fun i _=>by unfold signW;split;decide;split <;> decide
  have h2:=h.signs;simp only[wlen_app,wlen_cons,wlen_nil,List.length_cons,List.length_nil];omega
 rw[if_neg h6];rw[if_neg h6] at hf;by_cases h7:x.kind=7
 ·rw[if_pos h7];simp only[wlen_cons,wlen_nil,List.length_cons,List.length_nil];omega
 rw[if_neg h7];by_cases h8:x.kind=8
 ·rw[if_pos h8];simp only[wlen_cons,wlen_nil,List.length_cons,List.length_nil];omega
 rw[if_neg h8];by_cases h9:x.kind=9
 ·rw[if_pos h9];simp only[wlen_cons,wlen_nil,List.length_cons,List.length_nil];omega
 rw[if_neg h9];rw[if_neg (by omega)] at hf;have hod:(x.kind=10∨x.kind=11)→wlen (fordsW x.orders)≤120:=fun h10=>by
  rw[if_pos h10,Bool.and_eq_true] at hf;have h1:=(fordsF_all hf.1).1;have:=flat_len (fun x:List UInt8 × Ord=>x.1 :: x.2.words) 60 x.orders fun y hy=>by
   have h2:=ordW_len y.2 0 (h1 y hy).2;have h3:=h.orders.2 y hy;rw[wlen_cons];omega
  have:x.orders.length*60≤2*60:=Nat.mul_le_mul_right _ h.orders.1;unfold fordsW;omega
 by_cases h10:x.kind=10
 ·have:=hod (.inl h10);rw[if_pos h10,wlen_cons];simp only[List.length_cons,List.length_nil];omega
 rw[if_neg h10];by_cases h11:x.kind=11
 ·have:=hod (.inr h11);rw[if_pos h11,wlen_cons];simp only[List.length_cons,List.length_nil];omega
 rw[if_neg h11];rw[if_neg (by omega)] at hf;by_cases h12:x.kind=12
 ·rw[if_pos h12] at hf ⊢;simp only[Bool.and_eq_true] at hf;have h1:=ordW_len x.left 0 hf.1.1.1.1.2;have h2:=ordW_len x.right 0 hf.1.1.1.2;have h3:(relW x.rel).length≤2:=by unfold relW;split;decide;split <;> decide
  have h4:=h.left;have h5:=h.right;simp only[wlen_app,wlen_cons,wlen_nil,List.length_cons,List.length_nil];omega
 rw[if_neg h12];rw[if_neg h12] at hf;by_cases h13:x.kind=13
 ·rw[if_pos h13] at hf;simp only[Bool.and_eq_true,decide_eq_true_eq] at hf;have h1:=(dec_ok x.count.toNat (by omega)).2.2.2.1;have h2:wlen (Itm.words.optW2 q x.type)≤1300:=by
   rcases hx:x.type with _ | ⟨t,r⟩
   ·simp[Itm.words.optW2,wlen]
   have h3:=ht t (by rw[hx];simp);have h4:=fmt_len q h3;have h5:t.size*80≤15*80:=Nat.mul_le_mul_right _ h3.2.1;simp only[Itm.words.optW2,wlen_cons,wlen_nil];omega
  rw[wlen_cons,wlen_cons];simp only[List.length_cons,List.length_nil];omega
 rw[if_neg h13] at hf;cases hf
theorem fmtIts_len:∀(l:List Itm)(q:List (List UInt8)),(∀x∈l,MadeI x)→(fmtIts q l).length≤l.length*3003
 |[],_,_=>by simp[fmtIts]
 |x :: r,q,h=>by
  have h1:=(h x List.mem_cons_self).len q;have h2:=join_len (x.words q);have h3:=fmtIts_len r (x.quo q) fun y hy=>h y (List.mem_cons_of_mem _ hy);rw[fmtIts];simp only[List.length_append,List.length_cons,List.length_nil,Nat.add_mul];omega
theorem eat_bnds{q:List (List UInt8)}:∀{l:List Bnd},(∀b∈l,isName b.1=true∧b.1.length≤60∧b.2.wf=0∧b.2.short 60)→Eat (bndsK q l)
 |[],_=>Eat.nil
 |b :: r,h=>by
  obtain⟨h1,h2,h3,h4⟩:=h b List.mem_cons_self;have:=eat_bnds (q:=q) fun x hx=>h x (List.mem_cons_of_mem _ hx);unfold bndsK;rw[List.flatMap_cons];exact Eat.app (.cons (eats_pu (by decide)) (.cons (eats_nm h1 h2) (.cons (eats_pu (by decide)) (.cons (eats_tr q _ h3 h4) (.cons (eats_pu (by decide)) .nil))))) this
theorem eat_names:∀{l:List (List UInt8)},(∀b∈l,isName b=true∧b.length≤60)→Eat (l.map nmK)
 |[],_=>Eat.nil
 |b :: r,h=>.cons (eats_nm (h b List.mem_cons_self).1 (h b List.mem_cons_self).2) (eat_names fun x hx=>h x (List.mem_cons_of_mem _ hx))
theorem eat_bars:∀{l:List (List UInt8)},(∀b∈l,isName b=true∧b.length≤60)→Eat (barsK l)
 |[],_=>Eat.nil
 |[b],h=>.cons (eats_nm (h b List.mem_cons_self).1 (h b List.mem_cons_self).2) .nil
 |b :: c :: r,h=>.cons (eats_nm (h b List.mem_cons_self).1 (h b List.mem_cons_self).2) (.cons (eats_wd [124] (by decide)) (eat_bars (l:=c :: r) fun x hx=>h x (List.mem_cons_of_mem _ hx)))
mutual
theorem eat_ord:∀(o:Ord)(d:Int),o.ofm d=true→Eat o.wk
 |.node k a ps,d,h=>by
  rw[Ord.ofm] at h;rw[Ord.wk];by_cases h1:k=1
  ·rw[if_pos h1] at h ⊢;simp only[Bool.and_eq_true,decide_eq_true_eq] at h;exact .cons (eats_dec _ (by omega)) .nil
  rw[if_neg h1] at h ⊢;by_cases h2:k=2∨k=3
  ·rw[if_pos h2] at h;simp only[Bool.and_eq_true] at h;exact .cons (eats_pu (by split <;> decide)) (Eat.app (eat_ords ps (d+1) h.2) (.cons (eats_pu (by split <;> decide)) .nil))
  rw[if_neg h2] at h;cases h
theorem eat_ords:∀(l:List Ord)(d:Int),Ord.ofms d l=true→Eat (Ord.wks l)
 |[],_,_=>Eat.nil
 |a :: r,d,h=>by
  rw[Ord.ofms,Bool.and_eq_true] at h;exact Eat.app (eat_ord a d h.1) (eat_ords r d h.2)
end
theorem eat_fords:∀{l:List (List UInt8 × Ord)},(∀x∈l,isName x.1=true∧x.1.length≤60∧x.2.ofm 0=true)→Eat (fordsK l)
 |[],_=>Eat.nil
 |b :: r,h=>by
  obtain⟨h1,h2,h3⟩:=h b List.mem_cons_self;have:=eat_fords fun x hx=>h x (List.mem_cons_of_mem _ hx);unfold fordsK;rw[List.flatMap_cons];exact Eat.app (.cons (eats_nm h1 h2) (eat_ord b.2 0 h3)) this
theorem eat_opt{c:UInt8}(q:List (List UInt8)){l:List Raw}(hc:Eats (puK c).1 (puK c).2 Stop)(h:∀t∈l,t.wf=0∧t.short 60):Eat (optK c q l):=by
 cases l with
 |nil=>exact Eat.nil
 |cons t r=>exact .cons hc (.cons (eats_tr q t (h t List.mem_cons_self).1 (h t List.mem_cons_self).2) .nil)
theorem eats_eq:Eats (puK 61).1 (puK 61).2 Stop:=eats_word [61] (by decide) (by decide) (by decide)
theorem eats_two{a b:List UInt8}{K L:KT}(h:Eats a K Stop)(h':Eats b L Stop):Eats (a++32 :: b) (K++L) Stop:=by
 have:=(h.app (eats_blank 32 (by decide)) (fun z _=>stop_cons _ (by decide))).app h' (fun _ _=>trivial);simpa using this
theorem eats_fix(f:Int):Eats (fixK f).1 (fixK f).2 Stop:=by
 have h:=eats_di [105,110,102,105,120] (by decide);unfold fixK;split
 ·exact eats_di _ (by decide)
 split
 ·exact eats_di _ (by decide)
 split
 ·exact eats_two h (eats_wd [110,111,110,101] (by decide))
 split
 ·exact eats_two h (eats_wd [108,101,102,116] (by decide))
 exact eats_two h (eats_wd [114,105,103,104,116] (by decide))
theorem MadeI.eat{x:Itm}(h:MadeI x)(q:List (List UInt8)):Eat (x.wk q)∧x.wk q≠[]:=by
 have ht:∀t∈x.type,t.wf=0∧t.short 60:=fun t ht=>fs_wf (h.fs t (by simp[Itm.trees,ht]));have hv:∀t∈x.value,t.wf=0∧t.short 60:=fun t ht=>fs_wf (h.fs t (by simp[Itm.trees,ht]));have hs:∀b∈x.som,b.2.wf=0∧b.2.short 60:=fun b hb=>fs_wf (h.fs b.2 (by simp only[Itm.trees,List.map_append,List.mem_append];exact .inr (.inl (List.mem_map_of_mem hb))));have hp:∀b∈x.params,b.2.wf=0∧b.2.short 60:=fun b hb=>fs_wf (h.fs b.2 (by simp only[Itm.trees,List.map_append,List.mem_append];exact .inr (.inr (List.mem_map_of_mem hb))));have hn:=h.name;have hf:=h.form;unfold Itm.formedP at hf;unfold Itm.wk;by_cases h3:x.kind=3
 ·rw[if_pos h3];have hb:=h.bad h3;have h10:=h.op;have hop:isName x.op.name=true∧0≤x.op.prec∧x.op.prec≤99:=by
   unfold Op.bad at hb;split at hb
   ·cases hb
   rename_i h;split at hb
   ·cases hb
   rename_i h';simp only[Bool.or_eq_true,Bool.not_eq_true',decide_eq_true_eq,not_or] at h h';exact⟨by simpa using h.1.1,by omega⟩
  exact⟨.cons (eats_fix _) (.cons (eats_dec _ (by omega)) (.cons (eats_nm hop.1 (by omega)) .nil)),by simp⟩
 rw[if_neg h3];by_cases h12:x.kind=1∨x.kind=2
 ·rw[if_pos h12];have hnm:isName x.name=true:=by
   rcases h12 with h1 | h2
   ·rw[if_pos h1] at hf;simp only[Bool.and_eq_true] at hf;exact hf.1.1
   rw[if_neg (by omega),if_pos h2] at hf;simp only[Bool.and_eq_true] at hf;exact hf.1.1.1
  exact⟨.cons (eats_nm hnm (by omega)) (Eat.app (eat_opt q (eats_pu (by decide)) ht) (eat_opt q eats_eq hv)),by simp⟩
 rw[if_neg h12];rw[if_neg (by omega),if_neg (by omega),if_neg h3] at hf;by_cases h4:x.kind=4
 ·rw[if_pos h4] at hf ⊢;simp only[Bool.and_eq_true] at hf;have e1:Eat (bndsK q x.som):=eat_bnds fun b hb=>⟨bndsF_all hf.1.1.2 b hb,by have:=(h.som.2 b hb).1;omega,hs b hb⟩;have e2:Eat (bndsK q x.params):=eat_bnds fun b hb=>⟨bndsF_all hf.1.2 b hb,by have:=(h.params.2 b hb).1;omega,hp b hb⟩;refine⟨Eat.app (Eat.app (.cons (eats_di _ (by decide)) (.cons (eats_nm hf.1.1.1.1 (by omega)) (.cons (eats_pu (by decide)) .nil))) ?_) (.cons (eats_wd _ (by decide)) e2),by simp⟩;split
  ·exact Eat.nil
  exact .cons (eats_wd _ (by decide)) e1
 rw[if_neg h4] at hf ⊢;by_cases h5:x.kind=5
 ·rw[if_pos h5] at hf ⊢;simp only[Bool.and_eq_true] at hf;refine⟨Eat.app (Eat.app (.cons (eats_di _ (by decide)) (.cons (eats_pu (by decide)) .nil)) (eat_bars fun b hb=>⟨namesF_all hf.1.1.1 b hb,by have:=h.blocks.2 b hb;omega⟩)) (.cons (eats_pu (by decide)) (eat_names fun b hb=>⟨namesF_all hf.1.2 b hb,by have:=h.fams.2 b hb;omega⟩)),by simp⟩
 rw[if_neg h5] at hf ⊢;by_cases h6:x.kind=6
 ·rw[if_pos h6] at hf ⊢;simp only[Bool.and_eq_true] at hf;refine⟨Eat.app (.cons (eats_di _ (by decide)) (.cons (eats_nm hf.1.1 (by omega)) .nil)) fun y hy=>?_,by simp⟩;obtain⟨i,_,rfl⟩:=List.mem_map.1 hy;unfold signW;split
  ·exact eats_wd [43] (by decide)
  split
  ·exact eats_wd [45] (by decide)
  exact eats_wd [42] (by decide)
 rw[if_neg h6] at hf ⊢;have named:(x.kind=7∨x.kind=8∨x.kind=9)→∀w:List UInt8,(!w.isEmpty && decide (w.length≤64) && w.all letterB)=true→Eat [diK w,nmK x.name]∧[diK w,nmK x.name]≠[]:=fun hk w hw=>by
  rw[if_pos hk,Bool.and_eq_true] at hf;exact⟨.cons (eats_di w hw) (.cons (eats_nm hf.1 (by omega)) .nil),by simp⟩
 by_cases h7:x.kind=7
 ·rw[if_pos h7];exact named (.inl h7) _ (by decide)
 rw[if_neg h7];by_cases h8:x.kind=8
 ·rw[if_pos h8];exact named (.inr (.inl h8)) _ (by decide)
 rw[if_neg h8];by_cases h9:x.kind=9
 ·rw[if_pos h9];exact named (.inr (.inr h9)) _ (by decide)
 rw[if_neg h9];clear named;rw[if_neg (by omega)] at hf;have hod:(x.kind=10∨x.kind=11)→∀w:List UInt8,(!w.isEmpty && decide (w.length≤64) && w.all letterB)=true→Eat (diK w :: fordsK x.orders)∧diK w :: fordsK x.orders≠[]:=fun hk w hw=>by
  rw[if_pos hk,Bool.and_eq_true] at hf;have h1:=(fordsF_all hf.1).1;exact⟨.cons (eats_di w hw) (eat_fords fun y hy=>⟨(h1 y hy).1,by have:=(h.orders.2 y hy).1;omega,(h1 y hy).2⟩),by simp⟩
 by_cases h10:x.kind=10
 ·rw[if_pos h10];exact hod (.inl h10) _ (by decide)
 rw[if_neg h10];by_cases h11:x.kind=11
 ·rw[if_pos h11];exact hod (.inr h11) _ (by decide)
 rw[if_neg h11];clear hod;rw[if_neg (by omega)] at hf;by_cases h12:x.kind=12
 ·rw[if_pos h12] at hf ⊢;simp only[Bool.and_eq_true] at hf;have hr:Eats (relK x.rel).1 (relK x.rel).2 Stop:=by
   unfold relK;split
   ·exact eats_wd [60] (by decide)
   split
   ·exact eats_wd [60,61] (by decide)
   exact eats_eq
  exact⟨Eat.app (Eat.app (Eat.app (.cons (eats_di _ (by decide)) (.cons (eats_nm hf.1.1.1.1.1 (by omega)) .nil)) (eat_ord _ 0 hf.1.1.1.1.2)) (.cons hr .nil)) (eat_ord _ 0 hf.1.1.1.2),by simp⟩
 rw[if_neg h12] at hf ⊢;by_cases h13:x.kind=13
 ·rw[if_pos h13] at hf;simp only[Bool.and_eq_true,decide_eq_true_eq] at hf;refine⟨.cons (eats_di _ (by decide)) (.cons (eats_dec _ (by omega)) fun y hy=>?_),by simp⟩;obtain⟨t,h1,rfl⟩:=List.mem_map.1 hy;have h2:=ht t (List.mem_of_mem_take h1);exact eats_tr q t h2.1 h2.2
 rw[if_neg h13] at hf;cases hf
theorem eatI_made:∀(l:List Itm)(q:List (List UInt8)),(∀x∈l,MadeI x)→EatI q l
 |[],_,_=>trivial
 |x :: r,q,h=>⟨((h x List.mem_cons_self).eat q).1,((h x List.mem_cons_self).eat q).2,eatI_made r (x.quo q) fun y hy=>h y (List.mem_cons_of_mem _ hy)⟩
theorem wfIts_snoc:∀(l:List Itm)(ops:List Op)(x:Itm),wfIts ops l=0→(∀o∈ops,o.bad=0)→x.formedP=true→wfTs x.trees=0→(x.kind=3→(added (ops++opsOf l) x.op).2=0)→wfIts ops (l++[x])=0
 |[],ops,x,_,_,h1,h2,h3=>by
  rw[List.nil_append,wfIts,if_neg (by simp[h1]),if_neg (by simp[h2])];by_cases hk:x.kind=3
  ·have:=h3 hk;simp only[opsOf,List.filter_nil,List.map_nil,List.append_nil] at this;rw[if_pos hk,if_neg (by simp[this]),wfIts]
  rw[if_neg hk,wfIts]
 |y :: r,ops,x,hw,hb,h1,h2,h3=>by
  rw[wfIts] at hw;rw[List.cons_append,wfIts];by_cases f1:y.formedP=false
  ·rw[if_pos f1] at hw;cases hw
  rw[if_neg f1] at hw ⊢;by_cases f2:wfTs y.trees≠0
  ·rw[if_pos f2] at hw;exact absurd hw f2
  rw[if_neg f2] at hw ⊢;by_cases f3:y.kind=3
  ·rw[if_pos f3] at hw ⊢;by_cases f4:(added ops y.op).2≠0
   ·rw[if_pos f4] at hw;exact absurd hw f4
   rw[if_neg f4] at hw ⊢;obtain⟨e1,e2,_⟩:=added_good (q:=ops.map (·.name)) hb (fun o ho=>List.mem_map_of_mem ho) (Decidable.not_not.1 f4);rw[e1] at hw ⊢;refine wfIts_snoc r _ x hw e2 h1 h2 fun hk=>?_;have:=h3 hk;rw[opsOf_cons,if_pos f3] at this;simpa using this
  rw[if_neg f3] at hw ⊢;refine wfIts_snoc r _ x hw hb h1 h2 fun hk=>?_;have:=h3 hk;rwa[opsOf_cons,if_neg f3] at this
theorem made_back(l:List Itm)(h:∀x∈l,MadeI x)(h6:l.length≤6)(hw:wfItems l=0):(formatP l).length≤20000∧∃a,extendP [] (formatP l)=.ok (a,opsOf l) (lex (formatP l)).1.length∧a.map Itm.strip=l.map Itm.strip∧(lex (formatP l)).2=(0,(formatP l).length):=by
 have h1:=fmtIts_len l [] h;have h2:l.length*3003≤6*3003:=Nat.mul_le_mul_right _ h6;have h3:formatP l=fmtIts [] l:=by unfold formatP;rw[if_pos hw]
 exact⟨by rw[h3];omega,back_law l hw (eatI_made l [] h) (by omega)⟩
end Lfc
namespace Go.Proofs.YthajalgkjonaaaaGreatDoor
open Go.RowKit _root_.Lfc
theorem enters_clr2:∀args w,(callFunc 83 args).run Tryz.prog w=.ok (.enter 83 args) w:=enters_of Tryz.func83 (by kernel_rfl) rfl
theorem enters_clr4:∀args w,(callFunc 86 args).run Tryz.prog w=.ok (.enter 86 args) w:=enters_of Tryz.func86 (by kernel_rfl) rfl
theorem enters_clr5:∀args w,(callFunc 88 args).run Tryz.prog w=.ok (.enter 88 args) w:=enters_of Tryz.func88 (by kernel_rfl) rfl
theorem enters_clr7:∀args w,(callFunc 91 args).run Tryz.prog w=.ok (.enter 91 args) w:=enters_of Tryz.func91 (by kernel_rfl) rfl
theorem enters_clr8:∀args w,(callFunc 92 args).run Tryz.prog w=.ok (.enter 92 args) w:=enters_of Tryz.func92 (by kernel_rfl) rfl
theorem enters_clr9:∀args w,(callFunc 94 args).run Tryz.prog w=.ok (.enter 94 args) w:=enters_of Tryz.func94 (by kernel_rfl) rfl
theorem enters_clr10:∀args w,(callFunc 96 args).run Tryz.prog w=.ok (.enter 96 args) w:=enters_of Tryz.func96 (by kernel_rfl) rfl
theorem enters_clr11:∀args w,(callFunc 97 args).run Tryz.prog w=.ok (.enter 97 args) w:=enters_of Tryz.func97 (by kernel_rfl) rfl
def ordAgg(o:Lfc.Ord)(p:Option Addr × Nat):Value:=.agg #[.int .i64 o.k,.int .i64 o.a,.slice p.1 o.ps.length p.2]
theorem ord_agg{w:World}{o:Lfc.Ord}{p:Option Addr × Nat}(h:OrdsAt w p.1 o.ps∧o.ps.length≤p.2):OrdV w o (ordAgg o p):=by
 obtain⟨k,a,ps⟩:=o;exact OrdV.mk h.2 h.1
theorem clr2(x:Itm)(s:IS)(K:Nat)(w:World)(h:w.heap[K]?=some (.cells (itCells x s) 42 (0,0))):Calls Tryz.prog 83 #[.pointer (some ⟨K,0,none⟩)] w fun e w'=>e=.returned (.tuple #[])/\Oth K w w'/\w'.heap[K]?=some (.cells (itCells { x with name:=[],type:=[],value:=[] } ({ s with ty:=(none,0),va:=(none,0) })) 42 (0,0)):=by
 have g0:=zJ h (And.intro (show(itCells x s).size=22 from rfl) (Oth.refl K w));obtain⟨s1,u1,e1,y1,z1,g1⟩:=it_set g0.o.1 g0.o.2.1 2 (S []) (by decide);obtain⟨s2,u2,e2,y2,z2,g2⟩:=it_set g1.o.1 g1.o.2.1 3 zS (by decide);obtain⟨s3,u3,e3,y3,z3,g3⟩:=it_set g2.o.1 g2.o.2.1 4 zS (by decide);have R:=zJ ((((Oth.refl K w).trans g1.o.2.2).trans g2.o.2.2).trans g3.o.2.2) g3.o.1;clear h g0 g1 g2 g3;go_enter Tryz.func83,Tryz.ntmps83;go_wp2_with fail
 go_end0
 exact⟨rfl,R.o.1,R.o.2.trans (by obtain⟨_,_,_,_,_,⟨_,_,_⟩,_,_,_,_,_,_,⟨_,_,_⟩,⟨_,_,_⟩,_,_⟩:=x;rfl)⟩
theorem clr4(x:Itm)(s:IS)(K:Nat)(w:World)(h:w.heap[K]?=some (.cells (itCells x s) 42 (0,0))):Calls Tryz.prog 86 #[.pointer (some ⟨K,0,none⟩)] w fun e w'=>e=.returned (.tuple #[])/\Oth K w w'/\w'.heap[K]?=some (.cells (itCells { x with name:=[],som:=[],params:=[] } ({ s with so:=(none,0),pa:=(none,0) })) 42 (0,0)):=by
 have g0:=zJ h (And.intro (show(itCells x s).size=22 from rfl) (Oth.refl K w));obtain⟨s1,u1,e1,y1,z1,g1⟩:=it_set g0.o.1 g0.o.2.1 2 (S []) (by decide);obtain⟨s2,u2,e2,y2,z2,g2⟩:=it_set g1.o.1 g1.o.2.1 8 zS (by decide);obtain⟨s3,u3,e3,y3,z3,g3⟩:=it_set g2.o.1 g2.o.2.1 9 zS (by decide);have R:=zJ ((((Oth.refl K w).trans g1.o.2.2).trans g2.o.2.2).trans g3.o.2.2) g3.o.1;clear h g0 g1 g2 g3;go_enter Tryz.func86,Tryz.ntmps86;go_wp2_with fail
 go_end0
 exact⟨rfl,R.o.1,R.o.2.trans (by obtain⟨_,_,_,_,_,⟨_,_,_⟩,_,_,_,_,_,_,⟨_,_,_⟩,⟨_,_,_⟩,_,_⟩:=x;rfl)⟩
theorem clr5(x:Itm)(s:IS)(K:Nat)(w:World)(h:w.heap[K]?=some (.cells (itCells x s) 42 (0,0))):Calls Tryz.prog 88 #[.pointer (some ⟨K,0,none⟩)] w fun e w'=>e=.returned (.tuple #[])/\Oth K w w'/\w'.heap[K]?=some (.cells (itCells { x with blocks:=[],fams:=[] } ({ s with bl:=(none,0),fa:=(none,0) })) 42 (0,0)):=by
 have g0:=zJ h (And.intro (show(itCells x s).size=22 from rfl) (Oth.refl K w));obtain⟨s1,u1,e1,y1,z1,g1⟩:=it_set g0.o.1 g0.o.2.1 10 zS (by decide);obtain⟨s2,u2,e2,y2,z2,g2⟩:=it_set g1.o.1 g1.o.2.1 11 zS (by decide);have R:=zJ (((Oth.refl K w).trans g1.o.2.2).trans g2.o.2.2) g2.o.1;clear h g0 g1 g2;go_enter Tryz.func88,Tryz.ntmps88;go_wp2_with fail
 go_end0
 exact⟨rfl,R.o.1,R.o.2.trans (by obtain⟨_,_,_,_,_,⟨_,_,_⟩,_,_,_,_,_,_,⟨_,_,_⟩,⟨_,_,_⟩,_,_⟩:=x;rfl)⟩
theorem clr7(x:Itm)(s:IS)(K:Nat)(w:World)(h:w.heap[K]?=some (.cells (itCells x s) 42 (0,0))):Calls Tryz.prog 91 #[.pointer (some ⟨K,0,none⟩)] w fun e w'=>e=.returned (.tuple #[])/\Oth K w w'/\w'.heap[K]?=some (.cells (itCells { x with name:=[],signs:=[] } ({ s with si:=(none,0) })) 42 (0,0)):=by
 have g0:=zJ h (And.intro (show(itCells x s).size=22 from rfl) (Oth.refl K w));obtain⟨s1,u1,e1,y1,z1,g1⟩:=it_set g0.o.1 g0.o.2.1 2 (S []) (by decide);obtain⟨s2,u2,e2,y2,z2,g2⟩:=it_set g1.o.1 g1.o.2.1 12 zS (by decide);have R:=zJ (((Oth.refl K w).trans g1.o.2.2).trans g2.o.2.2) g2.o.1;clear h g0 g1 g2;go_enter Tryz.func91,Tryz.ntmps91;go_wp2_with fail
 go_end0
 exact⟨rfl,R.o.1,R.o.2.trans (by obtain⟨_,_,_,_,_,⟨_,_,_⟩,_,_,_,_,_,_,⟨_,_,_⟩,⟨_,_,_⟩,_,_⟩:=x;rfl)⟩
theorem clr8(x:Itm)(s:IS)(K:Nat)(w:World)(h:w.heap[K]?=some (.cells (itCells x s) 42 (0,0))):Calls Tryz.prog 92 #[.pointer (some ⟨K,0,none⟩)] w fun e w'=>e=.returned (.tuple #[])/\Oth K w w'/\w'.heap[K]?=some (.cells (itCells { x with name:=[] } (s)) 42 (0,0)):=by
 have g0:=zJ h (And.intro (show(itCells x s).size=22 from rfl) (Oth.refl K w));obtain⟨s1,u1,e1,y1,z1,g1⟩:=it_set g0.o.1 g0.o.2.1 2 (S []) (by decide);have R:=zJ ((Oth.refl K w).trans g1.o.2.2) g1.o.1;clear h g0 g1;go_enter Tryz.func92,Tryz.ntmps92;go_wp2_with fail
 go_end0
 exact⟨rfl,R.o.1,R.o.2.trans (by obtain⟨_,_,_,_,_,⟨_,_,_⟩,_,_,_,_,_,_,⟨_,_,_⟩,⟨_,_,_⟩,_,_⟩:=x;rfl)⟩
theorem clr9(x:Itm)(s:IS)(K:Nat)(w:World)(h:w.heap[K]?=some (.cells (itCells x s) 42 (0,0))):Calls Tryz.prog 94 #[.pointer (some ⟨K,0,none⟩)] w fun e w'=>e=.returned (.tuple #[])/\Oth K w w'/\w'.heap[K]?=some (.cells (itCells { x with orders:=[] } ({ s with od:=(none,0) })) 42 (0,0)):=by
 have g0:=zJ h (And.intro (show(itCells x s).size=22 from rfl) (Oth.refl K w));obtain⟨s1,u1,e1,y1,z1,g1⟩:=it_set g0.o.1 g0.o.2.1 13 zS (by decide);have R:=zJ ((Oth.refl K w).trans g1.o.2.2) g1.o.1;clear h g0 g1;go_enter Tryz.func94,Tryz.ntmps94;go_wp2_with fail
 go_end0
 exact⟨rfl,R.o.1,R.o.2.trans (by obtain⟨_,_,_,_,_,⟨_,_,_⟩,_,_,_,_,_,_,⟨_,_,_⟩,⟨_,_,_⟩,_,_⟩:=x;rfl)⟩
theorem clr10(x:Itm)(s:IS)(K:Nat)(w:World)(h:w.heap[K]?=some (.cells (itCells x s) 42 (0,0))):Calls Tryz.prog 96 #[.pointer (some ⟨K,0,none⟩)] w fun e w'=>e=.returned (.tuple #[])/\Oth K w w'/\w'.heap[K]?=some (.cells (itCells { x with name:=[],left:=Lfc.Ord.nil,right:=Lfc.Ord.nil,rel:=0 } ({ s with le:=(none,0),ri:=(none,0) })) 42 (0,0)):=by
 have g0:=zJ h (And.intro (show(itCells x s).size=22 from rfl) (Oth.refl K w));obtain⟨s1,u1,e1,y1,z1,g1⟩:=it_set g0.o.1 g0.o.2.1 2 (S []) (by decide);obtain⟨s2,u2,e2,y2,z2,g2⟩:=it_set g1.o.1 g1.o.2.1 14 (zI 0) (by decide);obtain⟨s3,u3,e3,y3,z3,g3⟩:=it_set g2.o.1 g2.o.2.1 15 (zI 0) (by decide);obtain⟨s4,u4,e4,y4,z4,g4⟩:=it_set g3.o.1 g3.o.2.1 16 zS (by decide);obtain⟨s5,u5,e5,y5,z5,g5⟩:=it_set g4.o.1 g4.o.2.1 17 (zI 0) (by decide);obtain⟨s6,u6,e6,y6,z6,g6⟩:=it_set g5.o.1 g5.o.2.1 18 (zI 0) (by decide);obtain⟨s7,u7,e7,y7,z7,g7⟩:=it_set g6.o.1 g6.o.2.1 19 zS (by decide);obtain⟨s8,u8,e8,y8,z8,g8⟩:=it_set g7.o.1 g7.o.2.1 20 (zI 0) (by decide);have R:=zJ (((((((((Oth.refl K w).trans g1.o.2.2).trans g2.o.2.2).trans g3.o.2.2).trans g4.o.2.2).trans g5.o.2.2).trans g6.o.2.2).trans g7.o.2.2).trans g8.o.2.2) g8.o.1;clear h g0 g1 g2 g3 g4 g5 g6 g7 g8;go_enter Tryz.func96,Tryz.ntmps96;go_wp2_with fail
 go_end0
 exact⟨rfl,R.o.1,R.o.2.trans (by obtain⟨_,_,_,_,_,⟨_,_,_⟩,_,_,_,_,_,_,⟨_,_,_⟩,⟨_,_,_⟩,_,_⟩:=x;rfl)⟩
theorem clr11(x:Itm)(s:IS)(K:Nat)(w:World)(h:w.heap[K]?=some (.cells (itCells x s) 42 (0,0))):Calls Tryz.prog 97 #[.pointer (some ⟨K,0,none⟩)] w fun e w'=>e=.returned (.tuple #[])/\Oth K w w'/\w'.heap[K]?=some (.cells (itCells { x with type:=[],count:=0 } ({ s with ty:=(none,0) })) 42 (0,0)):=by
 have g0:=zJ h (And.intro (show(itCells x s).size=22 from rfl) (Oth.refl K w));obtain⟨s1,u1,e1,y1,z1,g1⟩:=it_set g0.o.1 g0.o.2.1 3 zS (by decide);obtain⟨s2,u2,e2,y2,z2,g2⟩:=it_set g1.o.1 g1.o.2.1 21 (zI 0) (by decide);have R:=zJ (((Oth.refl K w).trans g1.o.2.2).trans g2.o.2.2) g2.o.1;clear h g0 g1 g2;go_enter Tryz.func97,Tryz.ntmps97;go_wp2_with fail
 go_end0
 exact⟨rfl,R.o.1,R.o.2.trans (by obtain⟨_,_,_,_,_,⟨_,_,_⟩,_,_,_,_,_,_,⟨_,_,_⟩,⟨_,_,_⟩,_,_⟩:=x;rfl)⟩
theorem formed_2(x:Itm)(s:IS)(w:World)(hk:x.kind=2)(hx:x.Sm)(hv:ItV w x s)(hf:x.formedP=true):Calls Tryz.prog 46 #[.agg (itCells x s)] w fun e w'=>e=.returned (.bool true)/\zb w w':=by
 have hn:=hv.name;have hlen:=hx.lens;have HO:=zH (fun W=>only_any 83 enters_clr2 x { x with name:=[],type:=[],value:=[] } s ({ s with ty:=(none,0),va:=(none,0) }) W (by have:=hx.lens;simp only[Itm.lens] at this ⊢;simp;omega) (fun W K hK=>clr2 x s K W hK));have CN:=zH (fun W=>isName_any x.name W (by omega));unfold Itm.formedP at hf;simp[hk] at hf;obtain⟨⟨⟨fn,ft⟩,fv⟩,fb⟩:=hf;rw[fn] at CN;rw[show({ x with name:=[],type:=[],value:=[] }:Itm).blank=true from fb] at HO;have e2:decide ((x.type.length:Int)<=1)=true:=by simp;omega
 have e3:((x.value.length:Int) == 1)=true:=by simp;omega
 clear ft fv;clear hx hv hlen;obtain⟨kind,pos,name,type,value,⟨on,of,op⟩,som,params,blocks,fams,signs,orders,⟨lk,la,lp⟩,⟨rk,ra,rp⟩,rel,count⟩:=x;simp only at *;subst hk;simp only[itCells,Lfc.Ord.k,Lfc.Ord.a,Lfc.Ord.ps] at *;obtain⟨w1,hw1⟩:∃w1,w.alloc (.cells #[zI 2,zI (pos:Int),S name,.slice s.ty.1 type.length s.ty.2,.slice s.va.1 value.length s.va.2,S on,zI of,zI op,.slice s.so.1 som.length s.so.2,.slice s.pa.1 params.length s.pa.2,.slice s.bl.1 blocks.length s.bl.2,.slice s.fa.1 fams.length s.fa.2,.slice s.si.1 signs.length s.si.2,.slice s.od.1 orders.length s.od.2,zI lk,zI la,.slice s.le.1 lp.length s.le.2,zI rk,zI ra,.slice s.ri.1 rp.length s.ri.2,zI rel,zI count] 42)=w1:=⟨_,rfl⟩;have b1:=zG hw1;have q1:=zQ hw1;have HQ:Hid (∀W,zb w1 W->zk W w.heap.size #[zI 2,zI (pos:Int),S name,.slice s.ty.1 type.length s.ty.2,.slice s.va.1 value.length s.va.2,S on,zI of,zI op,.slice s.so.1 som.length s.so.2,.slice s.pa.1 params.length s.pa.2,.slice s.bl.1 blocks.length s.bl.2,.slice s.fa.1 fams.length s.fa.2,.slice s.si.1 signs.length s.si.2,.slice s.od.1 orders.length s.od.2,zI lk,zI la,.slice s.le.1 lp.length s.le.2,zI rk,zI ra,.slice s.ri.1 rp.length s.ri.2,zI rel,zI count] 42):=zH fun W hb=>(hb.block _ (zL q1)).trans q1;have y0:=zC q1 0;have y2:=zC q1 2;have y3:=zC q1 3;have y4:=zC q1 4;simp at y0 y2 y3 y4;have hld:=it_load q1 rfl;clear q1;go_enter Tryz.func46,Tryz.ntmps46;go_upto_region 1 with fail;clear hw1;go_wp2_with (first | (refine wpList_it (by rfl) (by rfl) (by rfl) hld ?_) | (go_at_call 80;refine(CN.o _).mono ?_;rintro e wn⟨rfl,rfl⟩) | (go_at_call 81;refine(HO.o _).mono ?_;rintro e wo⟨rfl,bo⟩;have br:=b1.trans (bo.mono b1.size)));go_ret;exact⟨rfl,br⟩
theorem formed_4(x:Itm)(s:IS)(w:World)(hk:x.kind=4)(hx:x.Sm)(hv:ItV w x s)(hf:x.formedP=true):Calls Tryz.prog 46 #[.agg (itCells x s)] w fun e w'=>e=.returned (.bool true)/\zb w w':=by
 have hn:=hv.name;have hlen:=hx.lens;have HO:=zH (fun W=>only_any 86 enters_clr4 x { x with name:=[],som:=[],params:=[] } s ({ s with so:=(none,0),pa:=(none,0) }) W (by have:=hx.lens;simp only[Itm.lens] at this ⊢;simp;omega) (fun W K hK=>clr4 x s K W hK));have CN:=zH (fun W=>isName_any x.name W (by omega));have C0:=zH (fun W (hb:zb w W)=>fbnds_any x.som s.so.1 s.so.2 W (by have:=hx.so;omega) (hv.below hb).so.1);have C1:=zH (fun W (hb:zb w W)=>fbnds_any x.params s.pa.1 s.pa.2 W (by have:=hx.pa;omega) (hv.below hb).pa.1);unfold Itm.formedP at hf;simp[hk] at hf;obtain⟨⟨⟨⟨fn,fp⟩,fs⟩,fq⟩,fb⟩:=hf;rw[fn] at CN;rw[show({ x with name:=[],som:=[],params:=[] }:Itm).blank=true from fb] at HO;rw[fs] at C0;rw[fq] at C1;have e2:decide ((x.params.length:Int)>0)=true:=by simp;omega
 clear hx hv hlen;obtain⟨kind,pos,name,type,value,⟨on,of,op⟩,som,params,blocks,fams,signs,orders,⟨lk,la,lp⟩,⟨rk,ra,rp⟩,rel,count⟩:=x;simp only at *;subst hk;simp only[itCells,Lfc.Ord.k,Lfc.Ord.a,Lfc.Ord.ps] at *;obtain⟨w1,hw1⟩:∃w1,w.alloc (.cells #[zI 4,zI (pos:Int),S name,.slice s.ty.1 type.length s.ty.2,.slice s.va.1 value.length s.va.2,S on,zI of,zI op,.slice s.so.1 som.length s.so.2,.slice s.pa.1 params.length s.pa.2,.slice s.bl.1 blocks.length s.bl.2,.slice s.fa.1 fams.length s.fa.2,.slice s.si.1 signs.length s.si.2,.slice s.od.1 orders.length s.od.2,zI lk,zI la,.slice s.le.1 lp.length s.le.2,zI rk,zI ra,.slice s.ri.1 rp.length s.ri.2,zI rel,zI count] 42)=w1:=⟨_,rfl⟩;have b1:=zG hw1;have q1:=zQ hw1;have HQ:Hid (∀W,zb w1 W->zk W w.heap.size #[zI 4,zI (pos:Int),S name,.slice s.ty.1 type.length s.ty.2,.slice s.va.1 value.length s.va.2,S on,zI of,zI op,.slice s.so.1 som.length s.so.2,.slice s.pa.1 params.length s.pa.2,.slice s.bl.1 blocks.length s.bl.2,.slice s.fa.1 fams.length s.fa.2,.slice s.si.1 signs.length s.si.2,.slice s.od.1 orders.length s.od.2,zI lk,zI la,.slice s.le.1 lp.length s.le.2,zI rk,zI ra,.slice s.ri.1 rp.length s.ri.2,zI rel,zI count] 42):=zH fun W hb=>(hb.block _ (zL q1)).trans q1;have y0:=zC q1 0;have y2:=zC q1 2;have y8:=zC q1 8;have y9:=zC q1 9;simp at y0 y2 y8 y9;have hld:=it_load q1 rfl;clear q1;go_enter Tryz.func46,Tryz.ntmps46;go_upto_region 1 with fail;clear hw1;go_wp2_with (first | (refine wpList_it (by rfl) (by rfl) (by rfl) hld ?_) | (go_at_call 80;refine(CN.o _).mono ?_;rintro e wn⟨rfl,rfl⟩) | (go_at_call 85;(with_reducible refine(C0.o _ b1).mono ?_);rintro e v0⟨rfl,d0⟩;have c0:=b1.trans (d0.mono b1.size);have f0:=d0;have qv0:=HQ.o _ f0;clear hld y0 y2 y8 y9;have y0:=zC qv0 0;have y2:=zC qv0 2;have y8:=zC qv0 8;have y9:=zC qv0 9;simp at y0 y2 y8 y9;have hld:=it_load qv0 rfl;clear qv0) | (go_at_call 85;(with_reducible refine(C1.o _ c0).mono ?_);rintro e v1⟨rfl,d1⟩;have c1:=c0.trans (d1.mono c0.size);have f1:=f0.trans (d1.mono f0.size);have qv1:=HQ.o _ f1;clear hld y0 y2 y8 y9;have y0:=zC qv1 0;have y2:=zC qv1 2;have y8:=zC qv1 8;have y9:=zC qv1 9;simp at y0 y2 y8 y9;have hld:=it_load qv1 rfl;clear qv1) | (go_at_call 81;refine(HO.o _).mono ?_;rintro e wo⟨rfl,bo⟩;have br:=c1.trans (bo.mono c1.size)));go_ret;exact⟨rfl,br⟩
theorem formed_5(x:Itm)(s:IS)(w:World)(hk:x.kind=5)(hx:x.Sm)(hv:ItV w x s)(hf:x.formedP=true):Calls Tryz.prog 46 #[.agg (itCells x s)] w fun e w'=>e=.returned (.bool true)/\zb w w':=by
 have hn:=hv.name;have hlen:=hx.lens;have HO:=zH (fun W=>only_any 88 enters_clr5 x { x with blocks:=[],fams:=[] } s ({ s with bl:=(none,0),fa:=(none,0) }) W (by have:=hx.lens;simp only[Itm.lens] at this ⊢;simp;omega) (fun W K hK=>clr5 x s K W hK));have CN:=zH (fun W=>isName_any x.name W (by omega));have C0:=zH (fun W (hb:zb w W)=>fnames_any x.blocks s.bl.1 s.bl.2 W (by have:=hx.bl;omega) (hv.below hb).bl.1 hx.bln);have C1:=zH (fun W (hb:zb w W)=>fnames_any x.fams s.fa.1 s.fa.2 W (by have:=hx.fa;omega) (hv.below hb).fa.1 hx.fan);unfold Itm.formedP at hf;simp[hk] at hf;obtain⟨⟨⟨fl,fp⟩,fm⟩,fb⟩:=hf;rw[show({ x with blocks:=[],fams:=[] }:Itm).blank=true from fb] at HO;rw[fl] at C0;rw[fm] at C1;have e2:decide ((x.fams.length:Int)>0)=true:=by simp;omega
 clear hx hv hlen;obtain⟨kind,pos,name,type,value,⟨on,of,op⟩,som,params,blocks,fams,signs,orders,⟨lk,la,lp⟩,⟨rk,ra,rp⟩,rel,count⟩:=x;simp only at *;subst hk;simp only[itCells,Lfc.Ord.k,Lfc.Ord.a,Lfc.Ord.ps] at *;obtain⟨w1,hw1⟩:∃w1,w.alloc (.cells #[zI 5,zI (pos:Int),S name,.slice s.ty.1 type.length s.ty.2,.slice s.va.1 value.length s.va.2,S on,zI of,zI op,.slice s.so.1 som.length s.so.2,.slice s.pa.1 params.length s.pa.2,.slice s.bl.1 blocks.length s.bl.2,.slice s.fa.1 fams.length s.fa.2,.slice s.si.1 signs.length s.si.2,.slice s.od.1 orders.length s.od.2,zI lk,zI la,.slice s.le.1 lp.length s.le.2,zI rk,zI ra,.slice s.ri.1 rp.length s.ri.2,zI rel,zI count] 42)=w1:=⟨_,rfl⟩;have b1:=zG hw1;have q1:=zQ hw1;have HQ:Hid (∀W,zb w1 W->zk W w.heap.size #[zI 5,zI (pos:Int),S name,.slice s.ty.1 type.length s.ty.2,.slice s.va.1 value.length s.va.2,S on,zI of,zI op,.slice s.so.1 som.length s.so.2,.slice s.pa.1 params.length s.pa.2,.slice s.bl.1 blocks.length s.bl.2,.slice s.fa.1 fams.length s.fa.2,.slice s.si.1 signs.length s.si.2,.slice s.od.1 orders.length s.od.2,zI lk,zI la,.slice s.le.1 lp.length s.le.2,zI rk,zI ra,.slice s.ri.1 rp.length s.ri.2,zI rel,zI count] 42):=zH fun W hb=>(hb.block _ (zL q1)).trans q1;have y0:=zC q1 0;have y2:=zC q1 2;have y10:=zC q1 10;have y11:=zC q1 11;simp at y0 y2 y10 y11;have hld:=it_load q1 rfl;clear q1;go_enter Tryz.func46,Tryz.ntmps46;go_upto_region 1 with fail;clear hw1;go_wp2_with (first | (refine wpList_it (by rfl) (by rfl) (by rfl) hld ?_) | (go_at_call 80;refine(CN.o _).mono ?_;rintro e wn⟨rfl,rfl⟩) | (go_at_call 87;(with_reducible refine(C0.o _ b1).mono ?_);rintro e v0⟨rfl,d0⟩;have c0:=b1.trans (d0.mono b1.size);have f0:=d0;have qv0:=HQ.o _ f0;clear hld y0 y2 y10 y11;have y0:=zC qv0 0;have y2:=zC qv0 2;have y10:=zC qv0 10;have y11:=zC qv0 11;simp at y0 y2 y10 y11;have hld:=it_load qv0 rfl;clear qv0) | (go_at_call 87;(with_reducible refine(C1.o _ c0).mono ?_);rintro e v1⟨rfl,d1⟩;have c1:=c0.trans (d1.mono c0.size);have f1:=f0.trans (d1.mono f0.size);have qv1:=HQ.o _ f1;clear hld y0 y2 y10 y11;have y0:=zC qv1 0;have y2:=zC qv1 2;have y10:=zC qv1 10;have y11:=zC qv1 11;simp at y0 y2 y10 y11;have hld:=it_load qv1 rfl;clear qv1) | (go_at_call 81;refine(HO.o _).mono ?_;rintro e wo⟨rfl,bo⟩;have br:=c1.trans (bo.mono c1.size)));go_ret;exact⟨rfl,br⟩
theorem formed_6(x:Itm)(s:IS)(w:World)(hk:x.kind=6)(hx:x.Sm)(hv:ItV w x s)(hf:x.formedP=true):Calls Tryz.prog 46 #[.agg (itCells x s)] w fun e w'=>e=.returned (.bool true)/\zb w w':=by
 have hn:=hv.name;have hlen:=hx.lens;have HO:=zH (fun W=>only_any 91 enters_clr7 x { x with name:=[],signs:=[] } s ({ s with si:=(none,0) }) W (by have:=hx.lens;simp only[Itm.lens] at this ⊢;simp;omega) (fun W K hK=>clr7 x s K W hK));have CN:=zH (fun W=>isName_any x.name W (by omega));have C0:=zH (fun W (hb:zb w W)=>contains_fsign x.signs s.si.1 s.si.2 W (by have:=hx.si;omega) (hv.below hb).si.1);unfold Itm.formedP at hf;simp[hk] at hf;obtain⟨⟨fn,fs⟩,fb⟩:=hf;rw[fn] at CN;rw[show({ x with name:=[],signs:=[] }:Itm).blank=true from fb] at HO;have fs2:x.signs.any (fun y=>signBad y)=false:=by simpa using fs
 rw[fs2] at C0;clear hx hv hlen;obtain⟨kind,pos,name,type,value,⟨on,of,op⟩,som,params,blocks,fams,signs,orders,⟨lk,la,lp⟩,⟨rk,ra,rp⟩,rel,count⟩:=x;simp only at *;subst hk;simp only[itCells,Lfc.Ord.k,Lfc.Ord.a,Lfc.Ord.ps] at *;obtain⟨w1,hw1⟩:∃w1,w.alloc (.cells #[zI 6,zI (pos:Int),S name,.slice s.ty.1 type.length s.ty.2,.slice s.va.1 value.length s.va.2,S on,zI of,zI op,.slice s.so.1 som.length s.so.2,.slice s.pa.1 params.length s.pa.2,.slice s.bl.1 blocks.length s.bl.2,.slice s.fa.1 fams.length s.fa.2,.slice s.si.1 signs.length s.si.2,.slice s.od.1 orders.length s.od.2,zI lk,zI la,.slice s.le.1 lp.length s.le.2,zI rk,zI ra,.slice s.ri.1 rp.length s.ri.2,zI rel,zI count] 42)=w1:=⟨_,rfl⟩;have b1:=zG hw1;have q1:=zQ hw1;have HQ:Hid (∀W,zb w1 W->zk W w.heap.size #[zI 6,zI (pos:Int),S name,.slice s.ty.1 type.length s.ty.2,.slice s.va.1 value.length s.va.2,S on,zI of,zI op,.slice s.so.1 som.length s.so.2,.slice s.pa.1 params.length s.pa.2,.slice s.bl.1 blocks.length s.bl.2,.slice s.fa.1 fams.length s.fa.2,.slice s.si.1 signs.length s.si.2,.slice s.od.1 orders.length s.od.2,zI lk,zI la,.slice s.le.1 lp.length s.le.2,zI rk,zI ra,.slice s.ri.1 rp.length s.ri.2,zI rel,zI count] 42):=zH fun W hb=>(hb.block _ (zL q1)).trans q1;have y0:=zC q1 0;have y2:=zC q1 2;have y12:=zC q1 12;simp at y0 y2 y12;have hld:=it_load q1 rfl;clear q1;go_enter Tryz.func46,Tryz.ntmps46;go_upto_region 1 with fail;clear hw1;go_wp2_with (first | (refine wpList_it (by rfl) (by rfl) (by rfl) hld ?_) | (go_at_call 80;refine(CN.o _).mono ?_;rintro e wn⟨rfl,rfl⟩) | (go_at_call 90;(with_reducible refine(C0.o _ b1).mono ?_);rintro e v0⟨rfl,d0⟩;have c0:=b1.trans (d0.mono b1.size);have f0:=d0;have qv0:=HQ.o _ f0;clear hld y0 y2 y12;have y0:=zC qv0 0;have y2:=zC qv0 2;have y12:=zC qv0 12;simp at y0 y2 y12;have hld:=it_load qv0 rfl;clear qv0) | (go_at_call 81;refine(HO.o _).mono ?_;rintro e wo⟨rfl,bo⟩;have br:=c0.trans (bo.mono c0.size)));go_ret;exact⟨rfl,br⟩
theorem formed_7(x:Itm)(s:IS)(w:World)(hk:x.kind=7)(hx:x.Sm)(hv:ItV w x s)(hf:x.formedP=true):Calls Tryz.prog 46 #[.agg (itCells x s)] w fun e w'=>e=.returned (.bool true)/\zb w w':=by
 have hn:=hv.name;have hlen:=hx.lens;have HO:=zH (fun W=>only_any 92 enters_clr8 x { x with name:=[] } s (s) W (by have:=hx.lens;simp only[Itm.lens] at this ⊢;simp;omega) (fun W K hK=>clr8 x s K W hK));have CN:=zH (fun W=>isName_any x.name W (by omega));unfold Itm.formedP at hf;simp[hk] at hf;obtain⟨fn,fb⟩:=hf;rw[fn] at CN;rw[show({ x with name:=[] }:Itm).blank=true from fb] at HO;clear hx hv hlen;obtain⟨kind,pos,name,type,value,⟨on,of,op⟩,som,params,blocks,fams,signs,orders,⟨lk,la,lp⟩,⟨rk,ra,rp⟩,rel,count⟩:=x;simp only at *;subst hk;simp only[itCells,Lfc.Ord.k,Lfc.Ord.a,Lfc.Ord.ps] at *;obtain⟨w1,hw1⟩:∃w1,w.alloc (.cells #[zI 7,zI (pos:Int),S name,.slice s.ty.1 type.length s.ty.2,.slice s.va.1 value.length s.va.2,S on,zI of,zI op,.slice s.so.1 som.length s.so.2,.slice s.pa.1 params.length s.pa.2,.slice s.bl.1 blocks.length s.bl.2,.slice s.fa.1 fams.length s.fa.2,.slice s.si.1 signs.length s.si.2,.slice s.od.1 orders.length s.od.2,zI lk,zI la,.slice s.le.1 lp.length s.le.2,zI rk,zI ra,.slice s.ri.1 rp.length s.ri.2,zI rel,zI count] 42)=w1:=⟨_,rfl⟩;have b1:=zG hw1;have q1:=zQ hw1;have HQ:Hid (∀W,zb w1 W->zk W w.heap.size #[zI 7,zI (pos:Int),S name,.slice s.ty.1 type.length s.ty.2,.slice s.va.1 value.length s.va.2,S on,zI of,zI op,.slice s.so.1 som.length s.so.2,.slice s.pa.1 params.length s.pa.2,.slice s.bl.1 blocks.length s.bl.2,.slice s.fa.1 fams.length s.fa.2,.slice s.si.1 signs.length s.si.2,.slice s.od.1 orders.length s.od.2,zI lk,zI la,.slice s.le.1 lp.length s.le.2,zI rk,zI ra,.slice s.ri.1 rp.length s.ri.2,zI rel,zI count] 42):=zH fun W hb=>(hb.block _ (zL q1)).trans q1;have y0:=zC q1 0;have y2:=zC q1 2;simp at y0 y2;have hld:=it_load q1 rfl;clear q1;go_enter Tryz.func46,Tryz.ntmps46;go_upto_region 1 with fail;clear hw1;go_wp2_with (first | (refine wpList_it (by rfl) (by rfl) (by rfl) hld ?_) | (go_at_call 80;refine(CN.o _).mono ?_;rintro e wn⟨rfl,rfl⟩) | (go_at_call 81;refine(HO.o _).mono ?_;rintro e wo⟨rfl,bo⟩;have br:=b1.trans (bo.mono b1.size)));go_ret;exact⟨rfl,br⟩
theorem formed_8(x:Itm)(s:IS)(w:World)(hk:x.kind=8)(hx:x.Sm)(hv:ItV w x s)(hf:x.formedP=true):Calls Tryz.prog 46 #[.agg (itCells x s)] w fun e w'=>e=.returned (.bool true)/\zb w w':=by
 have hn:=hv.name;have hlen:=hx.lens;have HO:=zH (fun W=>only_any 92 enters_clr8 x { x with name:=[] } s (s) W (by have:=hx.lens;simp only[Itm.lens] at this ⊢;simp;omega) (fun W K hK=>clr8 x s K W hK));have CN:=zH (fun W=>isName_any x.name W (by omega));unfold Itm.formedP at hf;simp[hk] at hf;obtain⟨fn,fb⟩:=hf;rw[fn] at CN;rw[show({ x with name:=[] }:Itm).blank=true from fb] at HO;clear hx hv hlen;obtain⟨kind,pos,name,type,value,⟨on,of,op⟩,som,params,blocks,fams,signs,orders,⟨lk,la,lp⟩,⟨rk,ra,rp⟩,rel,count⟩:=x;simp only at *;subst hk;simp only[itCells,Lfc.Ord.k,Lfc.Ord.a,Lfc.Ord.ps] at *;obtain⟨w1,hw1⟩:∃w1,w.alloc (.cells #[zI 8,zI (pos:Int),S name,.slice s.ty.1 type.length s.ty.2,.slice s.va.1 value.length s.va.2,S on,zI of,zI op,.slice s.so.1 som.length s.so.2,.slice s.pa.1 params.length s.pa.2,.slice s.bl.1 blocks.length s.bl.2,.slice s.fa.1 fams.length s.fa.2,.slice s.si.1 signs.length s.si.2,.slice s.od.1 orders.length s.od.2,zI lk,zI la,.slice s.le.1 lp.length s.le.2,zI rk,zI ra,.slice s.ri.1 rp.length s.ri.2,zI rel,zI count] 42)=w1:=⟨_,rfl⟩;have b1:=zG hw1;have q1:=zQ hw1;have HQ:Hid (∀W,zb w1 W->zk W w.heap.size #[zI 8,zI (pos:Int),S name,.slice s.ty.1 type.length s.ty.2,.slice s.va.1 value.length s.va.2,S on,zI of,zI op,.slice s.so.1 som.length s.so.2,.slice s.pa.1 params.length s.pa.2,.slice s.bl.1 blocks.length s.bl.2,.slice s.fa.1 fams.length s.fa.2,.slice s.si.1 signs.length s.si.2,.slice s.od.1 orders.length s.od.2,zI lk,zI la,.slice s.le.1 lp.length s.le.2,zI rk,zI ra,.slice s.ri.1 rp.length s.ri.2,zI rel,zI count] 42):=zH fun W hb=>(hb.block _ (zL q1)).trans q1;have y0:=zC q1 0;have y2:=zC q1 2;simp at y0 y2;have hld:=it_load q1 rfl;clear q1;go_enter Tryz.func46,Tryz.ntmps46;go_upto_region 1 with fail;clear hw1;go_wp2_with (first | (refine wpList_it (by rfl) (by rfl) (by rfl) hld ?_) | (go_at_call 80;refine(CN.o _).mono ?_;rintro e wn⟨rfl,rfl⟩) | (go_at_call 81;refine(HO.o _).mono ?_;rintro e wo⟨rfl,bo⟩;have br:=b1.trans (bo.mono b1.size)));go_ret;exact⟨rfl,br⟩
theorem formed_9(x:Itm)(s:IS)(w:World)(hk:x.kind=9)(hx:x.Sm)(hv:ItV w x s)(hf:x.formedP=true):Calls Tryz.prog 46 #[.agg (itCells x s)] w fun e w'=>e=.returned (.bool true)/\zb w w':=by
 have hn:=hv.name;have hlen:=hx.lens;have HO:=zH (fun W=>only_any 92 enters_clr8 x { x with name:=[] } s (s) W (by have:=hx.lens;simp only[Itm.lens] at this ⊢;simp;omega) (fun W K hK=>clr8 x s K W hK));have CN:=zH (fun W=>isName_any x.name W (by omega));unfold Itm.formedP at hf;simp[hk] at hf;obtain⟨fn,fb⟩:=hf;rw[fn] at CN;rw[show({ x with name:=[] }:Itm).blank=true from fb] at HO;clear hx hv hlen;obtain⟨kind,pos,name,type,value,⟨on,of,op⟩,som,params,blocks,fams,signs,orders,⟨lk,la,lp⟩,⟨rk,ra,rp⟩,rel,count⟩:=x;simp only at *;subst hk;simp only[itCells,Lfc.Ord.k,Lfc.Ord.a,Lfc.Ord.ps] at *;obtain⟨w1,hw1⟩:∃w1,w.alloc (.cells #[zI 9,zI (pos:Int),S name,.slice s.ty.1 type.length s.ty.2,.slice s.va.1 value.length s.va.2,S on,zI of,zI op,.slice s.so.1 som.length s.so.2,.slice s.pa.1 params.length s.pa.2,.slice s.bl.1 blocks.length s.bl.2,.slice s.fa.1 fams.length s.fa.2,.slice s.si.1 signs.length s.si.2,.slice s.od.1 orders.length s.od.2,zI lk,zI la,.slice s.le.1 lp.length s.le.2,zI rk,zI ra,.slice s.ri.1 rp.length s.ri.2,zI rel,zI count] 42)=w1:=⟨_,rfl⟩;have b1:=zG hw1;have q1:=zQ hw1;have HQ:Hid (∀W,zb w1 W->zk W w.heap.size #[zI 9,zI (pos:Int),S name,.slice s.ty.1 type.length s.ty.2,.slice s.va.1 value.length s.va.2,S on,zI of,zI op,.slice s.so.1 som.length s.so.2,.slice s.pa.1 params.length s.pa.2,.slice s.bl.1 blocks.length s.bl.2,.slice s.fa.1 fams.length s.fa.2,.slice s.si.1 signs.length s.si.2,.slice s.od.1 orders.length s.od.2,zI lk,zI la,.slice s.le.1 lp.length s.le.2,zI rk,zI ra,.slice s.ri.1 rp.length s.ri.2,zI rel,zI count] 42):=zH fun W hb=>(hb.block _ (zL q1)).trans q1;have y0:=zC q1 0;have y2:=zC q1 2;simp at y0 y2;have hld:=it_load q1 rfl;clear q1;go_enter Tryz.func46,Tryz.ntmps46;go_upto_region 1 with fail;clear hw1;go_wp2_with (first | (refine wpList_it (by rfl) (by rfl) (by rfl) hld ?_) | (go_at_call 80;refine(CN.o _).mono ?_;rintro e wn⟨rfl,rfl⟩) | (go_at_call 81;refine(HO.o _).mono ?_;rintro e wo⟨rfl,bo⟩;have br:=b1.trans (bo.mono b1.size)));go_ret;exact⟨rfl,br⟩
theorem formed_10(x:Itm)(s:IS)(w:World)(hk:x.kind=10)(hx:x.Sm)(hv:ItV w x s)(hf:x.formedP=true):Calls Tryz.prog 46 #[.agg (itCells x s)] w fun e w'=>e=.returned (.bool true)/\zb w w':=by
 have hn:=hv.name;have hlen:=hx.lens;have HO:=zH (fun W=>only_any 94 enters_clr9 x { x with orders:=[] } s ({ s with od:=(none,0) }) W (by have:=hx.lens;simp only[Itm.lens] at this ⊢;simp;omega) (fun W K hK=>clr9 x s K W hK));have CN:=zH (fun W=>isName_any x.name W (by omega));have C0:=zH (fun W (hb:zb w W)=>fords_any x.orders s.od.1 s.od.2 W (by have:=hx.od;omega) (hv.below hb).od.1 (fun y hy=>by have:=hx.ors y hy;omega));unfold Itm.formedP at hf;simp[hk] at hf;obtain⟨fo,fb⟩:=hf;rw[show({ x with orders:=[] }:Itm).blank=true from fb] at HO;rw[fo] at C0;clear hx hv hlen;obtain⟨kind,pos,name,type,value,⟨on,of,op⟩,som,params,blocks,fams,signs,orders,⟨lk,la,lp⟩,⟨rk,ra,rp⟩,rel,count⟩:=x;simp only at *;subst hk;simp only[itCells,Lfc.Ord.k,Lfc.Ord.a,Lfc.Ord.ps] at *;obtain⟨w1,hw1⟩:∃w1,w.alloc (.cells #[zI 10,zI (pos:Int),S name,.slice s.ty.1 type.length s.ty.2,.slice s.va.1 value.length s.va.2,S on,zI of,zI op,.slice s.so.1 som.length s.so.2,.slice s.pa.1 params.length s.pa.2,.slice s.bl.1 blocks.length s.bl.2,.slice s.fa.1 fams.length s.fa.2,.slice s.si.1 signs.length s.si.2,.slice s.od.1 orders.length s.od.2,zI lk,zI la,.slice s.le.1 lp.length s.le.2,zI rk,zI ra,.slice s.ri.1 rp.length s.ri.2,zI rel,zI count] 42)=w1:=⟨_,rfl⟩;have b1:=zG hw1;have q1:=zQ hw1;have HQ:Hid (∀W,zb w1 W->zk W w.heap.size #[zI 10,zI (pos:Int),S name,.slice s.ty.1 type.length s.ty.2,.slice s.va.1 value.length s.va.2,S on,zI of,zI op,.slice s.so.1 som.length s.so.2,.slice s.pa.1 params.length s.pa.2,.slice s.bl.1 blocks.length s.bl.2,.slice s.fa.1 fams.length s.fa.2,.slice s.si.1 signs.length s.si.2,.slice s.od.1 orders.length s.od.2,zI lk,zI la,.slice s.le.1 lp.length s.le.2,zI rk,zI ra,.slice s.ri.1 rp.length s.ri.2,zI rel,zI count] 42):=zH fun W hb=>(hb.block _ (zL q1)).trans q1;have y0:=zC q1 0;have y2:=zC q1 2;have y13:=zC q1 13;simp at y0 y2 y13;have hld:=it_load q1 rfl;clear q1;go_enter Tryz.func46,Tryz.ntmps46;go_upto_region 1 with fail;clear hw1;go_wp2_with (first | (refine wpList_it (by rfl) (by rfl) (by rfl) hld ?_) | (go_at_call 80;refine(CN.o _).mono ?_;rintro e wn⟨rfl,rfl⟩) | (go_at_call 93;(with_reducible refine(C0.o _ b1).mono ?_);rintro e v0⟨rfl,d0⟩;have c0:=b1.trans (d0.mono b1.size);have f0:=d0;have qv0:=HQ.o _ f0;clear hld y0 y2 y13;have y0:=zC qv0 0;have y2:=zC qv0 2;have y13:=zC qv0 13;simp at y0 y2 y13;have hld:=it_load qv0 rfl;clear qv0) | (go_at_call 81;refine(HO.o _).mono ?_;rintro e wo⟨rfl,bo⟩;have br:=c0.trans (bo.mono c0.size)));go_ret;exact⟨rfl,br⟩
theorem formed_11(x:Itm)(s:IS)(w:World)(hk:x.kind=11)(hx:x.Sm)(hv:ItV w x s)(hf:x.formedP=true):Calls Tryz.prog 46 #[.agg (itCells x s)] w fun e w'=>e=.returned (.bool true)/\zb w w':=by
 have hn:=hv.name;have hlen:=hx.lens;have HO:=zH (fun W=>only_any 94 enters_clr9 x { x with orders:=[] } s ({ s with od:=(none,0) }) W (by have:=hx.lens;simp only[Itm.lens] at this ⊢;simp;omega) (fun W K hK=>clr9 x s K W hK));have CN:=zH (fun W=>isName_any x.name W (by omega));have C0:=zH (fun W (hb:zb w W)=>fords_any x.orders s.od.1 s.od.2 W (by have:=hx.od;omega) (hv.below hb).od.1 (fun y hy=>by have:=hx.ors y hy;omega));unfold Itm.formedP at hf;simp[hk] at hf;obtain⟨fo,fb⟩:=hf;rw[show({ x with orders:=[] }:Itm).blank=true from fb] at HO;rw[fo] at C0;clear hx hv hlen;obtain⟨kind,pos,name,type,value,⟨on,of,op⟩,som,params,blocks,fams,signs,orders,⟨lk,la,lp⟩,⟨rk,ra,rp⟩,rel,count⟩:=x;simp only at *;subst hk;simp only[itCells,Lfc.Ord.k,Lfc.Ord.a,Lfc.Ord.ps] at *;obtain⟨w1,hw1⟩:∃w1,w.alloc (.cells #[zI 11,zI (pos:Int),S name,.slice s.ty.1 type.length s.ty.2,.slice s.va.1 value.length s.va.2,S on,zI of,zI op,.slice s.so.1 som.length s.so.2,.slice s.pa.1 params.length s.pa.2,.slice s.bl.1 blocks.length s.bl.2,.slice s.fa.1 fams.length s.fa.2,.slice s.si.1 signs.length s.si.2,.slice s.od.1 orders.length s.od.2,zI lk,zI la,.slice s.le.1 lp.length s.le.2,zI rk,zI ra,.slice s.ri.1 rp.length s.ri.2,zI rel,zI count] 42)=w1:=⟨_,rfl⟩;have b1:=zG hw1;have q1:=zQ hw1;have HQ:Hid (∀W,zb w1 W->zk W w.heap.size #[zI 11,zI (pos:Int),S name,.slice s.ty.1 type.length s.ty.2,.slice s.va.1 value.length s.va.2,S on,zI of,zI op,.slice s.so.1 som.length s.so.2,.slice s.pa.1 params.length s.pa.2,.slice s.bl.1 blocks.length s.bl.2,.slice s.fa.1 fams.length s.fa.2,.slice s.si.1 signs.length s.si.2,.slice s.od.1 orders.length s.od.2,zI lk,zI la,.slice s.le.1 lp.length s.le.2,zI rk,zI ra,.slice s.ri.1 rp.length s.ri.2,zI rel,zI count] 42):=zH fun W hb=>(hb.block _ (zL q1)).trans q1;have y0:=zC q1 0;have y2:=zC q1 2;have y13:=zC q1 13;simp at y0 y2 y13;have hld:=it_load q1 rfl;clear q1;go_enter Tryz.func46,Tryz.ntmps46;go_upto_region 1 with fail;clear hw1;go_wp2_with (first | (refine wpList_it (by rfl) (by rfl) (by rfl) hld ?_) | (go_at_call 80;refine(CN.o _).mono ?_;rintro e wn⟨rfl,rfl⟩) | (go_at_call 93;(with_reducible refine(C0.o _ b1).mono ?_);rintro e v0⟨rfl,d0⟩;have c0:=b1.trans (d0.mono b1.size);have f0:=d0;have qv0:=HQ.o _ f0;clear hld y0 y2 y13;have y0:=zC qv0 0;have y2:=zC qv0 2;have y13:=zC qv0 13;simp at y0 y2 y13;have hld:=it_load qv0 rfl;clear qv0) | (go_at_call 81;refine(HO.o _).mono ?_;rintro e wo⟨rfl,bo⟩;have br:=c0.trans (bo.mono c0.size)));go_ret;exact⟨rfl,br⟩
theorem formed_12(x:Itm)(s:IS)(w:World)(hk:x.kind=12)(hx:x.Sm)(hv:ItV w x s)(hf:x.formedP=true):Calls Tryz.prog 46 #[.agg (itCells x s)] w fun e w'=>e=.returned (.bool true)/\zb w w':=by
 have hn:=hv.name;have hlen:=hx.lens;have HO:=zH (fun W=>only_any 96 enters_clr10 x { x with name:=[],left:=Lfc.Ord.nil,right:=Lfc.Ord.nil,rel:=0 } s ({ s with le:=(none,0),ri:=(none,0) }) W (by have:=hx.lens;simp only[Itm.lens] at this ⊢;simp;omega) (fun W K hK=>clr10 x s K W hK));have CN:=zH (fun W=>isName_any x.name W (by omega));have C0:=zH (fun W (hb:zb w W)=>orderFormed_upto 1000000 (by omega) x.left (ordAgg x.left s.le) 0 W (by have:=hx.les;omega) (ord_agg (hv.below hb).le) (by omega) (by omega));have C1:=zH (fun W (hb:zb w W)=>orderFormed_upto 1000000 (by omega) x.right (ordAgg x.right s.ri) 0 W (by have:=hx.ris;omega) (ord_agg (hv.below hb).ri) (by omega) (by omega));unfold Itm.formedP at hf;simp[hk] at hf;obtain⟨⟨⟨⟨⟨fn,fl⟩,fr⟩,f1⟩,f3⟩,fb⟩:=hf;rw[fn] at CN;rw[show({ x with name:=[],left:=Lfc.Ord.nil,right:=Lfc.Ord.nil,rel:=0 }:Itm).blank=true from fb] at HO;rw[fl] at C0;rw[fr] at C1;simp only[ordAgg] at C0 C1;have e2:decide (x.rel≥1)=true:=by simp;omega
 have e3:decide (x.rel<=3)=true:=by simp;omega
 clear hx hv hlen;obtain⟨kind,pos,name,type,value,⟨on,of,op⟩,som,params,blocks,fams,signs,orders,⟨lk,la,lp⟩,⟨rk,ra,rp⟩,rel,count⟩:=x;simp only at *;subst hk;simp only[itCells,Lfc.Ord.k,Lfc.Ord.a,Lfc.Ord.ps] at *;obtain⟨w1,hw1⟩:∃w1,w.alloc (.cells #[zI 12,zI (pos:Int),S name,.slice s.ty.1 type.length s.ty.2,.slice s.va.1 value.length s.va.2,S on,zI of,zI op,.slice s.so.1 som.length s.so.2,.slice s.pa.1 params.length s.pa.2,.slice s.bl.1 blocks.length s.bl.2,.slice s.fa.1 fams.length s.fa.2,.slice s.si.1 signs.length s.si.2,.slice s.od.1 orders.length s.od.2,zI lk,zI la,.slice s.le.1 lp.length s.le.2,zI rk,zI ra,.slice s.ri.1 rp.length s.ri.2,zI rel,zI count] 42)=w1:=⟨_,rfl⟩;have b1:=zG hw1;have q1:=zQ hw1;have HQ:Hid (∀W,zb w1 W->zk W w.heap.size #[zI 12,zI (pos:Int),S name,.slice s.ty.1 type.length s.ty.2,.slice s.va.1 value.length s.va.2,S on,zI of,zI op,.slice s.so.1 som.length s.so.2,.slice s.pa.1 params.length s.pa.2,.slice s.bl.1 blocks.length s.bl.2,.slice s.fa.1 fams.length s.fa.2,.slice s.si.1 signs.length s.si.2,.slice s.od.1 orders.length s.od.2,zI lk,zI la,.slice s.le.1 lp.length s.le.2,zI rk,zI ra,.slice s.ri.1 rp.length s.ri.2,zI rel,zI count] 42):=zH fun W hb=>(hb.block _ (zL q1)).trans q1;have y0:=zC q1 0;have y2:=zC q1 2;have y14:=zC q1 14;have y15:=zC q1 15;have y16:=zC q1 16;have y17:=zC q1 17;have y18:=zC q1 18;have y19:=zC q1 19;have y20:=zC q1 20;simp at y0 y2 y14 y15 y16 y17 y18 y19 y20;have hld:=it_load q1 rfl;clear q1;go_enter Tryz.func46,Tryz.ntmps46;go_upto_region 1 with fail;clear hw1;go_wp2_with (first | (refine wpList_it (by rfl) (by rfl) (by rfl) hld ?_) | (go_at_call 80;refine(CN.o _).mono ?_;rintro e wn⟨rfl,rfl⟩) | (go_at_call 95;(with_reducible refine(C0.o _ b1).mono ?_);rintro e v0⟨rfl,d0⟩;have c0:=b1.trans (d0.mono b1.size);have f0:=d0;have qv0:=HQ.o _ f0;clear hld y0 y2 y14 y15 y16 y17 y18 y19 y20;have y0:=zC qv0 0;have y2:=zC qv0 2;have y14:=zC qv0 14;have y15:=zC qv0 15;have y16:=zC qv0 16;have y17:=zC qv0 17;have y18:=zC qv0 18;have y19:=zC qv0 19;have y20:=zC qv0 20;simp at y0 y2 y14 y15 y16 y17 y18 y19 y20;have hld:=it_load qv0 rfl;clear qv0) | (go_at_call 95;(with_reducible refine(C1.o _ c0).mono ?_);rintro e v1⟨rfl,d1⟩;have c1:=c0.trans (d1.mono c0.size);have f1:=f0.trans (d1.mono f0.size);have qv1:=HQ.o _ f1;clear hld y0 y2 y14 y15 y16 y17 y18 y19 y20;have y0:=zC qv1 0;have y2:=zC qv1 2;have y14:=zC qv1 14;have y15:=zC qv1 15;have y16:=zC qv1 16;have y17:=zC qv1 17;have y18:=zC qv1 18;have y19:=zC qv1 19;have y20:=zC qv1 20;simp at y0 y2 y14 y15 y16 y17 y18 y19 y20;have hld:=it_load qv1 rfl;clear qv1) | (go_at_call 81;refine(HO.o _).mono ?_;rintro e wo⟨rfl,bo⟩;have br:=c1.trans (bo.mono c1.size)));go_ret;exact⟨rfl,br⟩
theorem formed_13(x:Itm)(s:IS)(w:World)(hk:x.kind=13)(hx:x.Sm)(hv:ItV w x s)(hf:x.formedP=true):Calls Tryz.prog 46 #[.agg (itCells x s)] w fun e w'=>e=.returned (.bool true)/\zb w w':=by
 have hn:=hv.name;have hlen:=hx.lens;have HO:=zH (fun W=>only_any 97 enters_clr11 x { x with type:=[],count:=0 } s ({ s with ty:=(none,0) }) W (by have:=hx.lens;simp only[Itm.lens] at this ⊢;simp;omega) (fun W K hK=>clr11 x s K W hK));have CN:=zH (fun W=>isName_any x.name W (by omega));unfold Itm.formedP at hf;simp[hk] at hf;obtain⟨⟨⟨ft,f1⟩,f3⟩,fb⟩:=hf;rw[show({ x with type:=[],count:=0 }:Itm).blank=true from fb] at HO;have e1:((x.type.length:Int) == 1)=true:=by simp;omega
 have e2:decide (x.count≥0)=true:=by simp;omega
 have e3:decide (x.count<=1000)=true:=by simp;omega
 clear ft f1 f3;clear hx hv hlen;obtain⟨kind,pos,name,type,value,⟨on,of,op⟩,som,params,blocks,fams,signs,orders,⟨lk,la,lp⟩,⟨rk,ra,rp⟩,rel,count⟩:=x;simp only at *;subst hk;simp only[itCells,Lfc.Ord.k,Lfc.Ord.a,Lfc.Ord.ps] at *;obtain⟨w1,hw1⟩:∃w1,w.alloc (.cells #[zI 13,zI (pos:Int),S name,.slice s.ty.1 type.length s.ty.2,.slice s.va.1 value.length s.va.2,S on,zI of,zI op,.slice s.so.1 som.length s.so.2,.slice s.pa.1 params.length s.pa.2,.slice s.bl.1 blocks.length s.bl.2,.slice s.fa.1 fams.length s.fa.2,.slice s.si.1 signs.length s.si.2,.slice s.od.1 orders.length s.od.2,zI lk,zI la,.slice s.le.1 lp.length s.le.2,zI rk,zI ra,.slice s.ri.1 rp.length s.ri.2,zI rel,zI count] 42)=w1:=⟨_,rfl⟩;have b1:=zG hw1;have q1:=zQ hw1;have HQ:Hid (∀W,zb w1 W->zk W w.heap.size #[zI 13,zI (pos:Int),S name,.slice s.ty.1 type.length s.ty.2,.slice s.va.1 value.length s.va.2,S on,zI of,zI op,.slice s.so.1 som.length s.so.2,.slice s.pa.1 params.length s.pa.2,.slice s.bl.1 blocks.length s.bl.2,.slice s.fa.1 fams.length s.fa.2,.slice s.si.1 signs.length s.si.2,.slice s.od.1 orders.length s.od.2,zI lk,zI la,.slice s.le.1 lp.length s.le.2,zI rk,zI ra,.slice s.ri.1 rp.length s.ri.2,zI rel,zI count] 42):=zH fun W hb=>(hb.block _ (zL q1)).trans q1;have y0:=zC q1 0;have y2:=zC q1 2;have y3:=zC q1 3;have y21:=zC q1 21;simp at y0 y2 y3 y21;have hld:=it_load q1 rfl;clear q1;go_enter Tryz.func46,Tryz.ntmps46;go_upto_region 1 with fail;clear hw1;go_wp2_with (first | (refine wpList_it (by rfl) (by rfl) (by rfl) hld ?_) | (go_at_call 80;refine(CN.o _).mono ?_;rintro e wn⟨rfl,rfl⟩) | (go_at_call 81;refine(HO.o _).mono ?_;rintro e wo⟨rfl,bo⟩;have br:=b1.trans (bo.mono b1.size)));go_ret;exact⟨rfl,br⟩
end Go.Proofs.YthajalgkjonaaaaGreatDoor
