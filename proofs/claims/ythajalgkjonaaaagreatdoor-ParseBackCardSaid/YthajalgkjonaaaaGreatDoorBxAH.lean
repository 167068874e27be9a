/- Parts of the proof that no input makes the law false: OpBin, RowO. -/
import Derived.IntWalk
import Derived.Test.YthajalgkjonaaaaGreatDoorBxAG
set_option linter.unusedVariables false
set_option linter.unusedSimpArgs false
set_option maxRecDepth 100000
set_option maxHeartbeats 32000000
namespace Lfc
def prep(p:List Raw)(r:Except Int (List Raw)):Except Int (List Raw) :=
 match r with
 |.error e=>.error e
 |.ok ts=>.ok (p++ts)
theorem prep_nil(r:Except Int (List Raw)):prep [] r=r:=by cases r <;> rfl
theorem allOk_err{g:List Opd→Except Int Raw}{x:List Opd}{r:List (List Opd)}{k:Int}(h:g x=.error k)(p:List Raw):prep p (allOk g (x :: r))=.error k:=by
 rw[allOk,h];rfl
theorem allOk_ok{g:List Opd→Except Int Raw}{x:List Opd}{r:List (List Opd)}{t:Raw}(h:g x=.ok t)(p:List Raw):prep p (allOk g (x :: r))=prep (p++[t]) (allOk g r):=by
 rw[allOk,h];cases allOk g r <;> simp[prep]
end Lfc
namespace Go.Proofs.YthajalgkjonaaaaGreatDoor
open Go.RowKit Go.Maps Go.WideMaps _root_.Lfc
def NatsAt(Rb:Nat)(w:World)(A:Option Addr)(l:List Nat):Prop:=∃b o,A=some ⟨b,o,none⟩∧b<w.heap.size∧b≠Rb∧∀i(h:i<l.length),w.cell? ⟨b,o+i,none⟩=some (.int .i64 (l[i]:Int))
theorem NatsAt.oth{Rb:Nat}{w w':World}{A:Option Addr}{l:List Nat}(h:NatsAt Rb w A l)(ho:Oth Rb w w'):NatsAt Rb w' A l:=by
 obtain⟨b,o,hA,hb,hn,hc⟩:=h;exact⟨b,o,hA,Zl hb ho.size,hn,fun i hi=>(ho.cell (p:=⟨b,_,none⟩) hb hn).trans (hc i hi)⟩
theorem NatsAt.of_own{Rb:Nat}{w:World}{base:Nat}{A:Option Addr}{c:Nat}{l:List Nat}(hne:0<l.length)(hRb:Rb<base)(h:w.ownsRow base 3 1 (.slice A l.length c) l.length (natCells l)):NatsAt Rb w A l:=by
 rcases h.2 with⟨_,h0⟩ | ⟨g,cap,cur,hv,hbg,hg,_⟩
 ·omega
 have hv':=hv;injection hv with e1 _ e3;subst e1 e3;refine⟨g,0,rfl,zL hg,by omega,fun i hi=>?_⟩;rw[Nat.zero_add,h.cellAt i (by omega)];simp[natCells,hi]
theorem iclone_any(Rb:Nat)(l:List Nat)(A:Option Addr)(c:Nat)(w:World)(hl:l.length<=1000000000)(h:NatsAt Rb w A l) :
  Calls Tryz.prog 193 #[.slice A l.length c] w fun e w'=>∃A' c',e=.returned (.slice A' l.length c')/\Hid (w'.ownsRow w.heap.size 3 1 (.slice A' l.length c') l.length (natCells l))/\zb w w':=by
 obtain⟨i0,hi,hz0,hz1,hz2⟩:=info_int;obtain⟨b,o,rfl,hb,_,hc⟩:=h;have hx:(natCells l).length=l.length*1:=by simp[natCells]
 have hone:∀u∈natCells l,u.oneCell'=true:=fun u hu=>by
  simp[natCells] at hu;obtain⟨i,_,rfl⟩:=hu;rfl
 have hlm:0+l.length<=maxLen:=by unfold maxLen;omega
 have hl8:(0+l.length)*8<=140737488355328:=by omega
 have hown0:(w.alloc (.cells #[] 3)).ownsRow w.heap.size 3 1 (.slice (some ⟨w.heap.size,0,none⟩) 0 0) 0 [] :=
  ⟨rfl,.inr ⟨w.heap.size,0,#[],rfl,zN _,zW _ _,zN _,by unfold maxLen;omega,rfl,rfl⟩⟩
 have hc2:∀j u,(natCells l)[j]?=some u->(w.alloc (.cells #[] 3)).cell? ((⟨b,o,none⟩:Addr).add j)=some u:=fun j u hj=>by
  rw[Go.WideShapes.add_plain,World.cell?_of_block (zA w _ _ hb)];have hjl:j<l.length:=by
   rcases Nat.lt_or_ge j l.length with h1 | h1
   ·exact h1
   rw[List.getElem?_eq_none (by simp[natCells];omega)] at hj;cases hj
  simp[natCells,hjl] at hj;rw[hc j hjl,<-hj]
 have HOWN:=zH hown0;have HC2:=zH hc2;have b1:zb w (w.alloc (.cells #[] 3)):=(zB _ _).alloc (zN _) _;have hnil:∀W:World,(binOp .eql 22 (.slice (some ⟨b,o,none⟩) l.length c) zS).run Tryz.prog W=.ok (.bool false) W:=fun _=>rfl;clear hc hown0 hc2;go_enter Tryz.func193,Tryz.ntmps193;go_wp2_with (at_builtin;refine wpList_append_own_at _ rfl _ _ 22 rfl w.heap.size 3 i0 (zI 0) 1 8 Tryz.underlying22 hi hz0 hz1 hz2 rfl (by decide) _ _ _ rfl HOWN.o ⟨b,o,none⟩ l.length c (natCells l) rfl hx HC2.o hone hlm hl8 (by simp) ?_);intro v' w2 hown2 hg2 _ _;obtain⟨A2,c2,rfl⟩:=own_form hown2;have HO2:=zH hown2;have b2:zb w w2:=b1.grown hg2 (by simp) (own_block_ge HOWN.o);clear hown2 hg2;go_wp2_with fail;go_ret;exact⟨A2,c2,rfl,by simpa using HO2,b2⟩
structure BinI(F:Prop)(w0 w wa:World)(Rb Mb:Nat)(E:List Nat)(vE:Value)(parts:List Raw)(vp:Value)(xs:List Value)(wr:World):Prop where
 oth:Oth Rb wa wr
 env:∃bad:Int,wr.heap[Rb]?=some (.cells #[.map (some Mb),.int .i64 bad] 174 (0,0))
 ends : wr.ownsRow wa.heap.size 3 1 vE E.length (natCells E)
 own:wr.ownsRow wa.heap.size 46 4 vp parts.length xs
 row:RowP (fun b=>(b<w0.heap.size∧F)∨(wa.heap.size≤b∧some b≠vp.ownBlock)) wr parts xs
theorem rest_of{s:List Opd}{E:List Nat}{b i:Nat}(h:i<E.length):segs s b (E.drop i)=(s.take E[i]).drop b :: segs s (E[i]+1) (E.drop (i+1)):=by
 rw[List.drop_eq_getElem_cons h,segs]
theorem own_types{w:World}{b b':Nat}{e e':TypeId}{k k' n n':Nat}{v v':Value}{xs xs':List Value}(h:w.ownsRow b e k v n xs)(h':w.ownsRow b' e' k' v' n' xs')(hne:e≠e'):v.ownBlock=none∨v.ownBlock≠v'.ownBlock:=by
 rcases h.2 with⟨rfl,_⟩ | ⟨g,cap,cur,rfl,_,hg,_⟩
 ·exact .inl rfl
 refine .inr ?_;rcases h'.2 with⟨rfl,_⟩ | ⟨g',cap',cur',rfl,_,hg',_⟩
 ·simp[Value.ownBlock]
 simp only[Value.ownBlock,ne_eq,Option.some.injEq];intro e1;subst e1;rw[hg] at hg';cases hg';exact hne rfl
theorem own_oth{w w':World}{Rb base:Nat}{e:TypeId}{k n:Nat}{v:Value}{xs:List Value}(h:w.ownsRow base e k v n xs)(hR:Rb<base)(ho:Oth Rb w w'):w'.ownsRow base e k v n xs :=
 h.kept ho (Or.inr (fun e1=>by have:=(h.lt _ e1).1;omega))
theorem bin_push{F:Prop}{w0 w wa wr w5 w8:World}{Rb Mb:Nat}{E:List Nat}{vE:Value}{parts:List Raw}{Ap:Option Addr}{cp:Nat}{xs:List Value}{t:Raw}{v0 v1 v2 v3 v8:Value}(hRa:Rb<wa.heap.size)(h0a:w0.heap.size≤wa.heap.size)(h0:w0.heap.size≤Rb)
  (HI:BinI F w0 w wa Rb Mb E vE parts (.slice Ap parts.length cp) xs wr) (o5:Oth Rb wr w5) (he5:∃bad:Int,w5.heap[Rb]?=some (.cells #[.map (some Mb),.int .i64 bad] 174 (0,0))) (ht:TreeP (fun b=>(b<w0.heap.size∧F)∨wr.heap.size≤b) w5 t v0 v1 v2 v3)
  (hown:w8.ownsRow wa.heap.size 46 4 v8 (parts.length+1) (xs++[v0,v1,v2,v3])) (hg:((w5.alloc (.cells #[v0,v1,v2,v3] 46)).alloc (.cells #[v0,v1,v2,v3] 46)).grownBy w8 (Value.slice Ap parts.length cp).ownBlock)
  (hloc:v8.ownBlock=(Value.slice Ap parts.length cp).ownBlock∨v8.ownBlock=some (w5.heap.size+1+1)):BinI F w0 w wa Rb Mb E vE (parts++[t]) v8 (xs++[v0,v1,v2,v3]) w8:=by
 have hs5:=o5.size;have hsr:=HI.oth.size;have hs8:w5.heap.size+2≤w8.heap.size:=by have:=hg.size;simpa using this
 have hvl:∀b,(Value.slice Ap parts.length cp).ownBlock=some b→wa.heap.size≤b∧b<wr.heap.size:=fun b hb=>HI.own.lt b hb;have k58:∀b,b<w5.heap.size→some b≠(Value.slice Ap parts.length cp).ownBlock→w8.heap[b]?=w5.heap[b]?:=fun b hb hn=>by
  rw[hg.block b (by simp;omega) hn,zA _ _ _ (by simp;omega),zA _ _ _ hb]
 have b58:Below wa.heap.size w5 w8:=⟨hg.os,hg.tape,hg.output,by omega,fun b hb=>k58 b (by omega) (fun e=>by have:=hvl b e.symm;omega)⟩;obtain⟨bad,hb5⟩:=he5;have ends5:=own_oth HI.ends hRa o5;have own5:=own_oth HI.own hRa o5;refine⟨(HI.oth.trans o5).of_new b58,⟨bad,(b58.block _ hRa).trans hb5⟩,?_,by rw[Zq];exact hown,?_⟩
 ·exact((ends5.alloc _).alloc _).kept hg (own_types ends5 own5 (by decide))
 refine RowP.append (RowP.one ?_) ?_
 ·refine TreeP.keep (fun b hb hlt=>k58 b hlt (fun e=>?_)) (by omega) (fun b hlt hb=>?_) _ _ _ _ _ ht
  ·have:=hvl b e.symm;rcases hb with hb | hb <;> omega
  rcases hb with hb | hb
  ·exact .inl hb
  refine .inr ⟨by omega,fun e=>?_⟩;rcases hloc with h | h
  ·have:=hvl b (h.symm.trans e.symm);omega
  have:=zO (e.trans h);omega
 refine RowP.keep (fun b hb hlt=>?_) (by omega) (fun b hlt hb=>?_) HI.row
 ·rcases hb with hb | hb
  ·exact(b58.block b (by omega)).trans (o5.block b hlt (fun e=>by have:=zO e;omega))
  exact(k58 b (by omega) hb.2).trans (o5.block b hlt (fun e=>by have:=zO e;omega))
 rcases hb with hb | hb
 ·exact .inl hb
 refine .inr ⟨hb.1,fun e=>?_⟩;rcases hloc with h | h
 ·exact hb.2 (e.trans h)
 have:=zO (e.trans h);omega
theorem slice_opds{w0:World}{b0 o0 c bg e:Nat}{s:List Opd}(h1:bg≤e)(h2:e≤s.length)(hc:s.length≤c)(hs:OpdsAt w0 (some ⟨b0,o0,none⟩) s):∃A3 c3,(∀W:World,(Instr.sliceAt 127 (.slice (some ⟨b0,o0,none⟩) s.length c) (some (.int .i64 (bg:Int))) (some (.int .i64 (e:Int))) none).run Tryz.prog W=.ok (.slice A3 ((s.take e).drop bg).length c3) W)∧OpdsAt w0 A3 ((s.take e).drop bg)∧((s.take e).drop bg).length≤c3:=by
 have hl:((s.take e).drop bg).length=e-bg:=by rw[List.length_drop,List.length_take];omega
 refine⟨if c=bg then some ⟨b0,o0,none⟩ else some ⟨b0,o0+bg*5,none⟩,c-bg,fun W=>?_,?_,by omega⟩
 ·have hsz:(sizeOf (Tryz.prog.elem 127)).run Tryz.prog W=.ok 5 W:=by kernel_rfl
  rw[run_sliceAt_slice _ _ _ _ _ _ (by kernel_rfl),run_slice_lh _ _ _ _ _ (by kernel_rfl) .i64 .i64 (bg:Int) (e:Int) (by omega) (by omega) (by omega),hsz];simp only[Result.andThen,sliced,Int.toNat_natCast,Option.map_some,Go.WideShapes.add_plain,hl]
 by_cases hcb:c=bg
 ·intro hne;exact absurd (Zz (by omega)) hne
 rw[if_neg hcb];exact hs.part bg e
structure JoinI(F:Prop)(w0 wa:World)(Rb Mb O:Nat)(parts:List Raw)(vp:Value)(xs:List Value)(t:Raw)(k p:Int)(n:List UInt8)(us:List Raw)(A:Option Addr)(c:Nat)(wr:World):Prop where
 oth:Oth Rb wa wr
 env:∃bad:Int,wr.heap[Rb]?=some (.cells #[.map (some Mb),.int .i64 bad] 174 (0,0))
 oge:wa.heap.size≤O
 own:wr.ownsRow wa.heap.size 46 4 vp parts.length xs
 one:vp.ownBlock≠some O
 row:RowP (fun b=>(b<w0.heap.size∧F)∨(wa.heap.size≤b∧b≠O)) wr parts xs
 rbx:wr.heap[O]?=some (.cells #[.int .i64 k,S n,.int .i64 p,.slice A us.length c] 46 (0,0))
 tree:TreeP (fun b=>(b<w0.heap.size∧F)∨(wa.heap.size≤b∧b≠O)) wr t (.int .i64 k) (S n) (.int .i64 p) (.slice A us.length c)
theorem JoinI.next{F:Prop}{w0 wa wr w5 s4:World}{Rb Mb O:Nat}{parts:List Raw}{vp:Value}{xs:List Value}{t t5:Raw}{k p k5 p5:Int}{n n5:List UInt8}{us us5:List Raw}{A A5:Option Addr}{c c5:Nat}(hRa:Rb<wa.heap.size)(h0:w0.heap.size≤wa.heap.size)
  (h:JoinI F w0 wa Rb Mb O parts vp xs t k p n us A c wr) (b5:Below wr.heap.size wr w5) (h5:TreeP (fun b=>((b<w0.heap.size∧F)∨(wa.heap.size≤b∧b≠O))∨wr.heap.size≤b) w5 t5 (.int .i64 k5) (S n5) (.int .i64 p5) (.slice A5 us5.length c5))
  (hq:s4.heap[O]?=some (.cells #[.int .i64 k5,S n5,.int .i64 p5,.slice A5 us5.length c5] 46 (0,0))) (ho:Oth O w5 s4):JoinI F w0 wa Rb Mb O parts vp xs t5 k5 p5 n5 us5 A5 c5 s4:=by
 have hO:=zL h.rbx;have hs5:=b5.size;have hs4:=ho.size;have hsr:=h.oth.size;have hge:=h.oge;obtain⟨bad,hb⟩:=h.env;have kk:∀b,b<wr.heap.size→b≠O→s4.heap[b]?=wr.heap[b]?:=fun b hb hn=>(ho.block b (by omega) (fun e=>hn (zO e))).trans (b5.block b hb);refine⟨h.oth.of_new (Oth.below (b5.mono hsr) ho hge (by omega)),⟨bad,(kk Rb (zL hb) (by omega)).trans hb⟩,hge,?_,h.one,?_,hq,?_⟩
 ·exact(own_below h.own b5).kept ho (Or.inr h.one)
 ·exact h.row.keep (fun b hb hlt=>kk b hlt (by rcases hb with hb | hb;omega;exact hb.2)) (by omega) (fun _ _ h=>h)
 refine TreeP.keep (fun b hb hlt=>ho.block b hlt (fun e=>?_)) hs4 (fun b _ hb=>?_) _ _ _ _ _ h5
 ·have:=zO e;rcases hb with(hb | hb) | hb
  ·omega
  ·exact hb.2 this
  omega
 rcases hb with hb | hb
 ·exact hb
 exact .inr ⟨by omega,by omega⟩
theorem join_start{F:Prop}{w0 w wa wr:World}{Rb Mb:Nat}{E:List Nat}{vE:Value}{parts:List Raw}{vp:Value}{xs:List Value}(h:BinI F w0 w wa Rb Mb E vE parts vp xs wr){t:Raw}{k p:Int}{n:List UInt8}{us:List Raw}{A:Option Addr}{c:Nat}(ht:TreeP (fun b=>(b<w0.heap.size∧F)∨(wa.heap.size≤b∧some b≠vp.ownBlock)) wr t (.int .i64 k) (S n) (.int .i64 p) (.slice A us.length c)) :
  JoinI F w0 wa Rb Mb wr.heap.size parts vp xs t k p n us A c (wr.alloc (.cells #[.int .i64 k,S n,.int .i64 p,.slice A us.length c] 46)):=by
 have ba:Below wr.heap.size wr (wr.alloc (.cells #[.int .i64 k,S n,.int .i64 p,.slice A us.length c] 46)):=(zB _ _).alloc (zN _) _;obtain⟨bad,hb⟩:=h.env;refine⟨h.oth.of_new (ba.mono h.oth.size),⟨bad,(ba.block _ (zL hb)).trans hb⟩,h.oth.size,own_below h.own ba,fun e=>by have:=(h.own.lt _ e).2;omega,?_,zW _ _,?_⟩
 ·exact h.row.keep (fun b _ hlt=>ba.block b hlt) ba.size (fun b hlt hb=>by rcases hb with hb | hb;exact .inl hb;exact .inr ⟨hb.1,by omega⟩)
 exact TreeP.keep (fun b _ hlt=>ba.block b hlt) ba.size (fun b hlt hb=>by rcases hb with hb | hb;exact .inl hb;exact .inr ⟨hb.1,by omega⟩) _ _ _ _ _ ht
theorem TreeP.node4{q:Nat→Prop}{w:World}{t:Raw}{v0 v1 v2 v3:Value}(h:TreeP q w t v0 v1 v2 v3):∃k n p us A c,t=.node k n p us∧v0=.int .i64 k∧v1=S n∧v2=.int .i64 p∧v3=.slice A us.length c:=by
 obtain⟨k,n,p,us⟩:=t;rw[TreeP] at h;obtain⟨rfl,rfl,_,rfl,A,c,rfl,_⟩:=h;exact⟨k,n,p,us,A,c,rfl,rfl,rfl,rfl,rfl⟩
theorem joinR_step(z:Raw)(ops parts:List Raw)(j:Nat)(h1:j<ops.length)(h2:j<parts.length):joinR z (ops.drop j) (parts.drop j)=joinT ops[j] parts[j] (joinR z (ops.drop (j+1)) (parts.drop (j+1))):=by
 rw[List.drop_eq_getElem_cons h1,List.drop_eq_getElem_cons h2,joinR]
theorem joinR_last(z:Raw)(ops parts:List Raw)(n:Nat)(h1:ops.length=n)(h2:parts.length=n+1):joinR z (ops.drop n) (parts.drop n)=parts[n]:=by
 rw[List.drop_eq_getElem_cons (show n<parts.length by omega),List.drop_of_length_le (show ops.length≤n by omega)];rfl
theorem joinL_step(t:Raw)(ops parts:List Raw)(j:Nat)(h1:j<ops.length)(h2:j+1<parts.length):joinL t ((ops.zip (parts.drop 1)).take (j+1))=joinT ops[j] (joinL t ((ops.zip (parts.drop 1)).take j)) parts[j+1]:=by
 have hl:j<(ops.zip (parts.drop 1)).length:=by rw[List.length_zip,List.length_drop];omega
 unfold joinL;rw[Zm hl,List.foldl_append];simp[Nat.add_comm]
theorem opTrees_get(s:List Opd)(at_:List Nat)(j:Nat)(h:j<at_.length)(hb:at_[j]<s.length):(opTrees s at_)[j]'(by simpa[opTrees] using h)=s[at_[j]].tree:=by
 simp[opTrees,hb]
theorem binary_any(F:Prop)(w0:World)(Rb Mb:Nat)(l:List Lfc.Op)(m:Nat)(ih:ResUpto F w0 Rb Mb l m)(s:List Opd)(A:Option Addr)(c:Nat)(at_:List Nat)(Aa:Option Addr)(ca:Nat)(fix:Int)(w:World)(hm:s.length<=m+1)(hl:s.length<=1000000)(hc:s.length<=c)(hsm:Small F s)(hs:OpdsAt w0 A s)(hpl:Places s.length at_)(hop:∀i,i∈at_->∀hl:i<s.length,s[i].tree.size<=100000000/\(s[i].tree.args=[]\/F))(hne:0<at_.length)(hat:NatsAt Rb w Aa at_)(h:EnvR w0 Rb Mb l w) :
  Calls Tryz.prog 171 #[.pointer (some ⟨Rb,0,none⟩),.slice A s.length c,.slice Aa at_.length ca,zI fix] w (ResPost F w0 w Rb Mb (binT (resP l m) s at_ fix)):=by
 have hspos:0<s.length:=by have:=hpl.2 _ (Ze hne);omega
 obtain⟨b0,o0,rfl,hb0,_⟩:=hs (by intro e;rw[e] at hspos;simp at hspos);obtain⟨wa,hwa⟩:∃wa,w.alloc (.cells #[zI 0,S [],zI 0,zS] 46)=wa:=⟨_,rfl⟩;have ba:=zG hwa;have qr:=zQ hwa;have hsa:=eq2 (show wa.heap.size=w.heap.size+1 by rw[<-hwa];simp);obtain⟨i0,hi,hz0,hz1,hz2⟩:=info_int;have hatl:=places_len hpl;have HE:=zH (h.new ba);have hrb:=h.lt;have hrge:=h.rge;have hs0:=h.bel.size;have BA:=zH ba;have QR:=zH qr;have HAT:=zH (hat.oth (zE ba));have HS:=zH hs;have HPL:=zH hpl;have HOP:=zH hop;have IH:=zH ih;have HSM:=zH hsm;have CI:=zH (iclone_any Rb at_ Aa ca wa (by omega) HAT.o);clear h ba qr hat hs hpl ih hsm hop;go_enter Tryz.func171,Tryz.ntmps171;go_upto_region 1 with fail;clear hwa;go_wp2_with fail;refine CI.o.mono ?_;rintro e w1⟨A1,c1,rfl,HO1,b1⟩;have hs1:=b1.size;have hlm:at_.length+1<=maxLen:=by unfold maxLen;omega
 have hl8:(at_.length+1)*8<=140737488355328:=by omega
 go_wp2_with (at_builtin;refine wpList_append_own_at _ rfl _ _ 22 rfl wa.heap.size 3 i0 (zI 0) 1 8 Tryz.underlying22 hi hz0 hz1 hz2 rfl (by decide) _ _ _ rfl (HO1.o.alloc _) ⟨w1.heap.size,0,none⟩ 1 1 [zI (s.length:Int)] rfl rfl (cell_one_new _ _ _) (by intro u hu;simp at hu;subst hu;rfl) hlm hl8 (alloc_le hs1) ?_);intro v2 w2 hown2 hg2 _ _;obtain⟨A2,c2,rfl⟩:=own_form hown2;obtain⟨E,hE⟩:∃E,at_++[s.length]=E:=⟨_,rfl⟩;have hEl:=eq2 (show E.length=at_.length+1 by rw[<-hE];simp);have b2:zb wa w2:=(b1.trans (((zB _ _).alloc (zN _) _).mono hs1)).grown hg2 (by simp;omega) (own_block_ge HO1.o);have I0:Hid (BinI F w0 w wa Rb Mb E (.slice A2 E.length c2) [] zS [] w2):=by
  have e:natCells E=natCells at_++[zI (s.length:Int)]:=by rw[<-hE];simp[natCells]
  obtain⟨bad,hcb⟩:=HE.o.cells;refine zH ⟨zE b2,⟨bad,(b2.block _ (zL hcb)).trans hcb⟩,?_,own_nil _ _ _ _,by rw[RowP]⟩;rw[e,<-hE];simpa using hown2
 have HEE:=zH hE;have hEn:E.length=at_.length+1:=by omega
 have hA2:(Value.slice A2 (at_.length+1) c2)=.slice A2 E.length c2:=by rw[hEn]
 have hEp:E.Pairwise (· < ·):=by
  rw[<-hE,List.pairwise_append];exact⟨HPL.o.1,by simp,fun a ha b hb=>by simp at hb;subst hb;exact HPL.o.2 a ha⟩
 have hEle:∀x∈E,x<=s.length:=fun x hx=>by
  rw[<-hE,List.mem_append] at hx;rcases hx with hx | hx
  ·exact Nat.le_of_lt (HPL.o.2 x hx)
  simp at hx;omega
 have hE0:∀(h:0<E.length),E[0]<s.length:=fun h=>by
  have:E[0]=at_[0]:=by simp[<-hE,hne]
  rw[this];exact HPL.o.2 _ (Ze _)
 have HEP:=zH hEp;have HELE:=zH hEle;have HE0:=zH hE0;clear hown2 hg2 hE hEp hEle hE0;rw[hA2];clear hA2 hEn;go_wp2_with fail;go_loopw [10,11,28] (fun vp b i wr=>∃(j bg:Nat)(parts:List Raw)(Ap:Option Addr)(cp:Nat)(xs:List Value),i=zI j/\b=zI bg/\vp=.slice Ap parts.length cp/\j<=E.length/\(parts.length<=j/\j<=parts.length)/\bg<=s.length+1/\(1<=bg\/j=0)/\Hid (BinI F w0 w wa Rb Mb E (.slice A2 E.length c2) parts (.slice Ap parts.length cp) xs wr)/\Hid (allOk (resP l m) (segs s 0 E)=prep parts (allOk (resP l m) (segs s bg (E.drop j))))/\Hid (∀x∈E.drop j,bg<=x/\x<=s.length)) (fun _ _ i _=>E.length-(intOf i).toNat);case atStart=>exact⟨0,0,[],none,0,[],rfl,rfl,rfl,Nat.zero_le _,⟨zN _,zN _⟩,by omega,.inr rfl,I0,zH (by rw[prep_nil];rfl),zH (fun x hx=>⟨Nat.zero_le _,HELE.o x (List.mem_of_mem_drop hx)⟩)⟩
 obtain⟨j,bg,parts,Ap,cp,xs,rfl,rfl,rfl,hj,hpj,hbg,hb1,HI,HA,HR⟩:=hrel;by_cases hlt:j<E.length
 ·obtain⟨gE,capE,curE,hvE,hgEb,hgEh⟩:∃g cap cur,A2=some ⟨g,0,none⟩/\wa.heap.size<=g/\wr.heap[g]?=some (.cells cur 3 (0,0)):=by
   rcases HI.o.ends.2 with⟨_,h2⟩ | ⟨g,cap,cur,hv,hbg',hg,_⟩
   ·omega
   injection hv with e1 _ e3;exact⟨g,cap,cur,e1,hbg',hg⟩
  subst hvE;have hce:wr.cell? ⟨gE,j,none⟩=some (zI ((E[j]:Nat):Int)):=by
   have:=own_cells HI.o.ends j (zI ((E[j]:Nat):Int)) (by simp[natCells,hlt]);rwa[Nat.zero_add] at this
  have hrng:=HR.o E[j] (by rw[List.drop_eq_getElem_cons hlt];exact List.mem_cons_self);have hseg:=rest_of (s:=s) (b:=bg) hlt;have HSEG:=zH hseg;have HEJ:Hid (∀(h:0<E.length),j=0->E[j]<s.length):=zH (fun h e=>by subst e;exact HE0.o h);have HNX:Hid (∀x∈E.drop (j+1),E[j]+1<=x/\x<=s.length):=zH (fun x hx=>⟨by
   have:=HEP.o;rw[<-List.take_append_drop j E,List.pairwise_append,List.drop_eq_getElem_cons hlt,List.pairwise_cons] at this;exact this.2.1.1 x hx,HELE.o x (List.mem_of_mem_drop hx)⟩)
  clear hseg;generalize E[j]=e at *;have hi0:=zP j;have hi1:(j:Int)<(E.length:Int):=by omega
  have k0:=zP bg;have k1:(bg:Int)<=(e:Int):=by omega
  have k2:(e:Int)<=(c:Int):=by omega
  obtain⟨A3,c3,hsl,hA3,hc3⟩:=slice_opds (c:=c) hrng.1 hrng.2 hc HS.o;have hsl2:((s.take e).drop bg).length=e-bg:=by rw[List.length_drop,List.length_take];omega
  have hsub:∀x∈(s.take e).drop bg,x∈s:=fun x hx=>List.mem_of_mem_take (List.mem_of_mem_drop hx);obtain⟨sg,hsg⟩:∃sg,(s.take e).drop bg=sg:=⟨_,rfl⟩;rw[hsg] at hsl hA3 hc3 hsl2 hsub HSEG;have hlm1:sg.length<=m:=by
   rcases hb1 with h1 | h1
   ·omega
   have:=HEJ.o (by omega) h1;omega
  obtain⟨bad,hcb⟩:=HI.o.env;have hrba:Rb<wa.heap.size:=by omega
  have CR:=zH (IH.o sg A3 c3 wr hlm1 (by omega) hc3 (fun x hx=>HSM.o x (hsub x hx)) hA3 (HE.o.oth HI.o.oth hcb));have hqr:zk wr w.heap.size #[zI 0,S [],zI 0,zS] 46:=HI.o.oth.heap QR.o (by omega);have HQR:=zH hqr;clear hsg hsl2 hsub hA3 hc3 hlm1 hcb hqr HEJ;cases hres:resP l m sg with
  |error kk =>
   rw[hres] at CR;have HBIN:Hid (binT (resP l m) s at_ fix=.error kk):=zH (by
    have e1:=HA.o;rw[HSEG.o,allOk_err hres] at e1;unfold binT;rw[HEE.o,e1])
   unfold ResPost ResErr at CR;simp only at CR;clear hres;go_wp2_with fail;refine CR.o.mono ?_;rintro ee w5⟨rfl,o5,hc5⟩;have hs5:=o5.size;obtain⟨w6,hw6⟩:∃w6,w5.alloc (.cells #[zI 0,S [],zI 0,zS] 46)=w6:=⟨_,rfl⟩;have b6:=zG hw6;have q6:=zQ hw6;have qr5:=o5.heap HQR.o (by omega);obtain⟨s1,s2,s3,s4,g1,g2,g3,g4,⟨y0,y1,y2,y3⟩,⟨f0,f1,f2,f3⟩,hq,ho⟩:=put4 ((b6.block _ (zL qr5)).trans qr5) (zI 0) (S []) (zI 0) zS;obtain⟨x0,x1,x2,x3⟩:=cells4 q6;have HF:=zH (oth_fin ((zE BA.o).trans (HI.o.oth.trans o5)) b6 ho (zN _) hrb hc5);have HQ:=zH hq;have HW6:=zH hw6;clear hq ho hc5 o5 b6 q6 qr5 hw6 hsl hce;go_upto_region 7 with fail;rw[HW6.o];go_wp2_with fail;refine Zb (results_raw2 rfl _ _ _ _ _ _ _ rfl HQ.o) ?_;rw[HBIN.o];exact⟨rfl,HF.o.1,HF.o.2⟩
  |ok t =>
   rw[hres] at CR;have HA2:Hid (allOk (resP l m) (segs s 0 E)=prep (parts++[t]) (allOk (resP l m) (segs s (e+1) (E.drop (j+1))))):=zH (by
    have e1:=HA.o;rw[HSEG.o,allOk_ok hres] at e1;exact e1)
   unfold ResPost ResOk at CR;simp only at CR;clear hres;go_wp2_with fail;refine CR.o.mono ?_;rintro ee w5⟨v5,rfl,ht5,o5,he5⟩;obtain⟨k5,n5,p5,us5,A5,c5,e5,rfl,tp5⟩:=ht5.parts4;have hs5:=o5.size;obtain⟨w6,hw6⟩:∃w6,w5.alloc (.cells (zT k5 n5 p5 A5 us5 c5) 46)=w6:=⟨_,rfl⟩;have b6:=zG hw6;have q6:=zQ hw6;have h6s:=eq2 (show w6.heap.size=w5.heap.size+1 by rw[<-hw6];simp);obtain⟨x0,x1,x2,x3⟩:=cells4 q6;obtain⟨j0,hj0,hy0,hy1,hy2⟩:=raw_info;have HO6:Hid (w6.ownsRow wa.heap.size 46 4 (.slice Ap parts.length cp) parts.length xs):=zH (own_below (own_oth HI.o.own hrba o5) b6);have HW6:=zH hw6;have O5:=zH o5;have E5:=zH he5;have TP5:=zH tp5;have hsr:=HI.o.oth.size;have hlm:parts.length+1<=maxLen:=(by unfold maxLen;omega);have hl56:(parts.length+1)*56<=140737488355328:=(by omega);have hone:∀u∈[zI k5,S n5,zI p5,.slice A5 us5.length c5],u.oneCell'=true:=(by intro u hu;simp at hu;rcases hu with rfl | rfl | rfl | rfl <;> rfl);have h6b:wa.heap.size<=w6.heap.size:=(by omega);clear ht5 o5 b6 q6 hw6 hsl he5 tp5 e5;go_upto_region 7 with fail;rw[HW6.o];go_wp2_with (at_builtin;refine wpList_append_own_at _ rfl _ _ 32 rfl wa.heap.size 46 j0 (.agg #[zI 0,S [],zI 0,zS]) 4 56 Tryz.underlying32 hj0 hy0 hy1 hy2 rfl (by decide) _ _ _ rfl (HO6.o.alloc _) ⟨w6.heap.size,0,none⟩ 1 1 [zI k5,S n5,zI p5,.slice A5 us5.length c5] rfl rfl (fun j u h=>cells_new w6 _ rfl [zI k5,S n5,zI p5,.slice A5 us5.length c5] 46 j u h) hone hlm hl56 (alloc_le h6b) ?_);intro v8 w8 hown8 hg8 _ hloc8;obtain⟨A8,c8,rfl⟩:=own_form hown8;have HN:Hid (BinI F w0 w wa Rb Mb E (.slice (some ⟨gE,0,none⟩) E.length c2) (parts++[t]) (.slice A8 (parts++[t]).length c8) (xs++[zI k5,S n5,zI p5,.slice A5 us5.length c5]) w8):=zH (by
    rw[<-HW6.o] at hg8 hloc8;have:=bin_push hrba (by omega) hrge HI.o O5.o E5.o TP5.o hown8 hg8 (by simpa using hloc8);rwa[Zq])
   have HLN:=zH (Zq:(parts++[t]).length=_);clear hown8 hg8 hloc8 x0 x1 x2 x3;go_wp2_with fail;go_roundw;case rel =>
    refine⟨j+1,e+1,parts++[t],A8,c8,_,by go_num,by go_num,by simp,by omega,by simp;omega,by omega,.inl (by omega),HN,HA2,HNX⟩
   case measure=>simp[intOf];omega
 have hjE:j=E.length:=by omega
 have HBIN:Hid (binT (resP l m) s at_ fix=.ok (joined fix (opTrees s at_) parts)):=zH (by
  have e1:=HA.o;rw[hjE,List.drop_length] at e1;unfold binT;rw[HEE.o,e1];simp[prep,segs,allOk])
 have hpl2:Hid (parts.length=at_.length+1):=zH (by omega);have hrba:Rb<wa.heap.size:=by omega
 have hplen1:parts.length<=at_.length+1:=by omega
 have hplen2:at_.length+1<=parts.length:=by omega
 obtain⟨gp,capp,curp,hvp,hgpb,hgph⟩:∃g cap cur,Ap=some ⟨g,0,none⟩/\wa.heap.size<=g/\wr.heap[g]?=some (.cells cur 46 (0,0)):=by
  rcases HI.o.own.2 with⟨_,h2⟩ | ⟨g,cap,cur,hv,hbg',hg,_⟩
  ·omega
  injection hv with e1 _ e3;exact⟨g,cap,cur,e1,hbg',hg⟩
 subst hvp;clear hgph HA HR hjE;by_cases hf:fix=5
 ·have HJN:Hid (joined 5 (opTrees s at_) parts=joinR rawZ (opTrees s at_) parts):=zH rfl;have hf2:(fix == 5)=true:=by simp[hf]
  subst hf;obtain⟨v0,v1,v2,v3,hx0,hx1,hx2,hx3,htp⟩:=HI.o.row.get at_.length (by omega);obtain⟨k,n,p,us,Ao,co,hnd,rfl,rfl,rfl,rfl⟩:=htp.node4;have hcat:=own_cells HI.o.own;have d0:=hcat _ _ hx0;have d1:=hcat _ _ hx1;have d2:=hcat _ _ hx2;have d3:=hcat _ _ hx3;simp only[Nat.zero_add] at d0 d1 d2 d3;obtain⟨w3,hw3⟩:∃w3,wr.alloc (.cells (zT k n p Ao us co) 46)=w3:=⟨_,rfl⟩;have J0:Hid (JoinI F w0 wa Rb Mb wr.heap.size parts (.slice (some ⟨gp,0,none⟩) parts.length cp) xs parts[at_.length] k p n us Ao co w3):=by rw[<-hw3];exact zH (join_start HI.o htp)
  have HT0:Hid (parts[at_.length]=joinR rawZ ((opTrees s at_).drop at_.length) (parts.drop at_.length)):=zH (joinR_last _ _ _ _ (by simp[opTrees]) hpl2.o).symm;have HW3:=zH hw3;have hna:(0:Int)<=(at_.length:Int):=zP _;have hplen:=hpl2.o;generalize parts[at_.length]=t0 at *;clear hx0 hx1 hx2 hx3 htp hcat hw3;go_upto_region 14 with fail;rw[HW3.o];clear d0 d1 d2 d3 hplen;have hplen1:parts.length<=at_.length+1:=by have:=hpl2.o;omega
  have hplen2:at_.length+1<=parts.length:=by have:=hpl2.o;omega
  go_wp2_with fail;generalize wr.heap.size=O at *;go_loopw [17] (fun i wr=>∃(j:Nat)(t:Raw)(k p:Int)(n:List UInt8)(us:List Raw)(Ao:Option Addr)(co:Nat),i=zI ((j:Int)-1)/\j<=at_.length/\Hid (JoinI F w0 wa Rb Mb O parts (.slice (some ⟨gp,0,none⟩) parts.length cp) xs t k p n us Ao co wr)/\Hid (t=joinR rawZ ((opTrees s at_).drop j) (parts.drop j))) (fun i _=>(intOf i+1).toNat);case atStart=>exact⟨at_.length,t0,k,p,n,us,Ao,co,rfl,zN _,J0,HT0⟩
  clear J0 HT0 HI HW3;obtain⟨j,t,k,p,n,us,Ao,co,rfl,hja,HJ,HT⟩:=hrel;cases j with
  |zero =>
   have hz:(((0:Nat):Int)-1)=-1:=(by omega);rw[hz];rw[List.drop_zero,List.drop_zero] at HT;obtain⟨x0,x1,x2,x3⟩:=cells4 HJ.o.rbx;have qr:=HJ.o.oth.heap QR.o (by omega);obtain⟨s1,s2,s3,s4,g1,g2,g3,g4,⟨y0,y1,y2,y3⟩,⟨f0,f1,f2,f3⟩,hq,ho⟩:=put4 qr (zI k) (S n) (zI p) (.slice Ao us.length co);obtain⟨bad,hcb⟩:=HJ.o.env;have HF:=zH (oth_fin ((zE BA.o).trans HJ.o.oth) (zB _ _) ho (zN _) hrb hcb);have HO:=zH ho;have HQ:=zH hq;clear hq ho hcb qr;go_wp2_with fail;refine Zb (results_raw2 rfl _ _ _ _ _ _ _ rfl HQ.o) ?_;rw[HBIN.o,HJN.o,<-HT.o];refine⟨_,rfl,⟨_,_,_,_,rfl,?_⟩,HF.o.1,_,HF.o.2⟩;exact TreeP.keep (fun b hb hlt=>HO.o.block b hlt (fun e=>by have:=zO e;rcases hb with hb | hb;omega;have:=hb.1;omega)) HO.o.size (fun b _ hb=>by rcases hb with hb | hb;exact .inl hb;exact .inr (by have:=hb.1;omega)) _ _ _ _ _ HJ.o.tree
  |succ j =>
   have hz:(((j+1:Nat):Int)-1)=(j:Int):=(by omega);rw[hz];have hjl:j<at_.length:=(by omega);have hxl:at_[j]<s.length:=HPL.o.2 _ (Ze _);have HX:=zH (opTrees_get s at_ j hjl hxl);obtain⟨ba,oa,hAa,hba,_,hca⟩:=HAT.o.oth HJ.o.oth;have hxc:=hca j hjl;have hsx:=HOP.o at_[j] (Ze _) hxl;have bel:zb w0 wr:=Oth.below HE.o.bel HJ.o.oth hrge HE.o.bel.size;obtain⟨b0',o0',k1,n1,p1,us1,B1,c1,hA0,hb1',hnd,d0,d1,d2,d3,d4,hT1⟩:=(HS.o.below bel).at_ hxl;cases hA0;have hT0:TreeVP (fun b=>(b<w0.heap.size/\F)\/(wa.heap.size<=b/\b≠O)) wr s[at_[j]].tree (.agg (zT k1 n1 p1 B1 us1 c1)):=by
    obtain⟨b0'',o0'',k1',n1',p1',us1',B1',c1',hA0',_,hnd',e0,e1,e2,e3,_,hT'⟩:=HS.o.at_ hxl;cases hA0';have hb:=fun(k:Nat)=>bel.cell (p:=⟨b0,o0+at_[j]*5+k,none⟩) hb0;rw[hnd] at hnd';cases hnd';have hd3:=d3;rw[hb 3,e3] at hd3;cases hd3;rw[hnd];obtain⟨v0,v1,v2,v3,ev,hp⟩:=TreeV.toF (F:=F) (by have:=hsx.2;rw[hnd] at this;exact this) hT';exact⟨v0,v1,v2,v3,ev,TreeP.keep (fun b hb _=>bel.block b hb.1) bel.size (fun b _ hb=>.inl hb) _ _ _ _ _ hp⟩
   have HT0:=zH hT0;subst hAa;obtain⟨v0,v1,v2,v3,hx0,hx1,hx2,hx3,htp⟩:=HJ.o.row.get (j) (by omega);obtain⟨k2,n2,p2,us2,A2',c2',hnd2,rfl,rfl,rfl,rfl⟩:=htp.node4;have hcat:=own_cells HJ.o.own;have q0:=hcat _ _ hx0;have q1:=hcat _ _ hx1;have q2:=hcat _ _ hx2;have q3:=hcat _ _ hx3;simp only[Nat.zero_add] at q0 q1 q2 q3;have HP2:=zH htp;obtain⟨x0,x1,x2,x3⟩:=cells4 HJ.o.rbx;have hi0:=zP j;have hi1:(j:Int)<(at_.length:Int):=(by omega);have hi2:(j:Int)<(parts.length:Int):=(by omega);have hi3:(0:Int)<=(at_[j]:Int):=zP _;have hi4:(at_[j]:Int)<(s.length:Int):=(by omega);have HSTEP:=zH (joinR_step rawZ (opTrees s at_) parts j (by simpa[opTrees] using hjl) (by omega));clear hz hca hT0 hcat hx0 hx1 hx2 hx3 htp hnd hnd2 hT1 bel;go_wp2_with fail;refine Zs 13 ?_;simp only[Zc,List.take_zero,List.drop_succ_cons,List.drop_zero];change wpStill Tryz.prog _ wr.drew _ _ _;repeat still_step
   try refine wpStill_nil ?_
   change wpList _ _ _ _ _ wr.drew;obtain⟨wz,hwz⟩:∃wz,wr.drew=wz:=⟨_,rfl⟩;rw[hwz];have bz:zb wr wz:=(by rw[<-hwz];exact(zB _ _).drew);have hzs:=eq2 (show wz.heap.size=wr.heap.size by rw[<-hwz];rfl);have KP:∀t v0 v1 v2 v3,TreeP (fun b=>(b<w0.heap.size/\F)\/(wa.heap.size<=b/\b≠O)) wr t v0 v1 v2 v3->TreeVP (fun b=>(b<w0.heap.size/\F)\/(wa.heap.size<=b/\b≠O)) wz t (.agg #[v0,v1,v2,v3]):=fun t v0 v1 v2 v3 h=>⟨v0,v1,v2,v3,rfl,TreeP.keep (fun b _ hlt=>bz.block b hlt) bz.size (fun _ _ h=>h) _ _ _ _ _ h⟩;have HT0z:TreeVP (fun b=>(b<w0.heap.size/\F)\/(wa.heap.size<=b/\b≠O)) wz s[at_[j]].tree (.agg (zT k1 n1 p1 B1 us1 c1)):=by
    obtain⟨u0,u1,u2,u3,eu,hu⟩:=HT0.o;cases eu;exact KP _ _ _ _ _ hu
   have CJ:=zH (join_any _ _ _ _ _ _ wz _ hsx.1 HT0z (KP _ _ _ _ _ HP2.o) (KP _ _ _ _ _ HJ.o.tree));clear hwz HT0z KP;go_wp2_with fail;refine CJ.o.mono ?_;rintro ee w5⟨⟨v5,rfl,hv5⟩,hb5⟩;obtain⟨k5,n5,p5,us5,A5,c5,e5,rfl,tp5⟩:=hv5.parts4;have b5:zb wr w5:=bz.trans (hb5.mono (by omega));have qo5:=(b5.block _ (zL HJ.o.rbx)).trans HJ.o.rbx;obtain⟨s1,s2,s3,s4,g1,g2,g3,g4,⟨y0,y1,y2,y3⟩,⟨f0,f1,f2,f3⟩,hq,ho⟩:=put4 qo5 (zI k5) (S n5) (zI p5) (.slice A5 us5.length c5);have tp5':TreeP (fun b=>((b<w0.heap.size/\F)\/(wa.heap.size<=b/\b≠O))\/wr.heap.size<=b) w5 _ _ _ _ _:=TreeP.keep (fun _ _ _=>rfl) (zN _) (fun b _ hb=>by rcases hb with hb | hb;exact .inl hb;exact .inr (by omega)) _ _ _ _ _ tp5;have HN:=zH (HJ.o.next hrba (by omega) b5 tp5' hq ho);have HT2:Hid (joinT s[at_[j]].tree parts[j] t=joinR rawZ ((opTrees s at_).drop j) (parts.drop j)):=zH (by rw[HSTEP.o,HX.o,HT.o]);clear hq ho qo5 tp5 tp5' hv5 e5 b5;go_wp2_with fail;go_roundw;case rel=>exact⟨j,_,_,_,_,_,_,_,rfl,by omega,HN,HT2⟩
   case measure=>simp[intOf] <;> omega
 have hf2:(fix == 5)=false:=by simpa using hf
 have HJN:Hid (joined fix (opTrees s at_) parts=joinL (parts.getD 0 rawZ) ((opTrees s at_).zip (parts.drop 1))):=zH (if_neg hf);obtain⟨v0,v1,v2,v3,hx0,hx1,hx2,hx3,htp⟩:=HI.o.row.get 0 (by omega);obtain⟨k,n,p,us,Ao,co,hnd,rfl,rfl,rfl,rfl⟩:=htp.node4;have hcat:=own_cells HI.o.own;have d0:=hcat _ _ hx0;have d1:=hcat _ _ hx1;have d2:=hcat _ _ hx2;have d3:=hcat _ _ hx3;simp only[Nat.zero_add,Nat.zero_mul] at d0 d1 d2 d3;obtain⟨w3,hw3⟩:∃w3,wr.alloc (.cells (zT k n p Ao us co) 46)=w3:=⟨_,rfl⟩;have J0:Hid (JoinI F w0 wa Rb Mb wr.heap.size parts (.slice (some ⟨gp,0,none⟩) parts.length cp) xs parts[0] k p n us Ao co w3):=by rw[<-hw3];exact zH (join_start HI.o htp)
 have HT0:Hid (parts[0]=joinL (parts.getD 0 rawZ) (((opTrees s at_).zip (parts.drop 1)).take 0)):=zH (by
  have:0<parts.length:=by omega
  simp[joinL,this])
 have HW3:=zH hw3;have hna:(0:Int)<(parts.length:Int):=by omega
 generalize parts[0]=t0 at *;generalize parts.getD 0 rawZ=z0 at *;clear hx0 hx1 hx2 hx3 htp hcat hw3;go_upto_region 20 with fail;rw[HW3.o];clear d0 d1 d2 d3;go_wp2_with fail;generalize wr.heap.size=O at *;go_loopw [86] (fun i wr=>∃(j:Nat)(t:Raw)(k p:Int)(n:List UInt8)(us:List Raw)(Ao:Option Addr)(co:Nat),i=zI j/\j<=at_.length/\Hid (JoinI F w0 wa Rb Mb O parts (.slice (some ⟨gp,0,none⟩) parts.length cp) xs t k p n us Ao co wr)/\Hid (t=joinL z0 (((opTrees s at_).zip (parts.drop 1)).take j))) (fun i _=>at_.length-(intOf i).toNat);case atStart=>exact⟨0,t0,k,p,n,us,Ao,co,rfl,Nat.zero_le _,J0,HT0⟩
 clear J0 HT0 HI HW3;obtain⟨j,t,k,p,n,us,Ao,co,rfl,hja,HJ,HT⟩:=hrel;by_cases hjl:j<at_.length
 ·have HSTEP:=zH (joinL_step z0 (opTrees s at_) parts j (by simpa[opTrees] using hjl) (by omega));have hxl:at_[j]<s.length:=HPL.o.2 _ (Ze _);have HX:=zH (opTrees_get s at_ j hjl hxl);obtain⟨ba,oa,hAa,hba,_,hca⟩:=HAT.o.oth HJ.o.oth;have hxc:=hca j hjl;have hsx:=HOP.o at_[j] (Ze _) hxl;have bel:zb w0 wr:=Oth.below HE.o.bel HJ.o.oth hrge HE.o.bel.size;obtain⟨b0',o0',k1,n1,p1,us1,B1,c1,hA0,hb1',hnd,d0,d1,d2,d3,d4,hT1⟩:=(HS.o.below bel).at_ hxl;cases hA0;have hT0:TreeVP (fun b=>(b<w0.heap.size/\F)\/(wa.heap.size<=b/\b≠O)) wr s[at_[j]].tree (.agg (zT k1 n1 p1 B1 us1 c1)):=by
   obtain⟨b0'',o0'',k1',n1',p1',us1',B1',c1',hA0',_,hnd',e0,e1,e2,e3,_,hT'⟩:=HS.o.at_ hxl;cases hA0';have hb:=fun(k:Nat)=>bel.cell (p:=⟨b0,o0+at_[j]*5+k,none⟩) hb0;rw[hnd] at hnd';cases hnd';have hd3:=d3;rw[hb 3,e3] at hd3;cases hd3;rw[hnd];obtain⟨v0,v1,v2,v3,ev,hp⟩:=TreeV.toF (F:=F) (by have:=hsx.2;rw[hnd] at this;exact this) hT';exact⟨v0,v1,v2,v3,ev,TreeP.keep (fun b hb _=>bel.block b hb.1) bel.size (fun b _ hb=>.inl hb) _ _ _ _ _ hp⟩
  have HT0:=zH hT0;subst hAa;obtain⟨v0,v1,v2,v3,hx0,hx1,hx2,hx3,htp⟩:=HJ.o.row.get (j+1) (by omega);obtain⟨k2,n2,p2,us2,A2',c2',hnd2,rfl,rfl,rfl,rfl⟩:=htp.node4;have hcat:=own_cells HJ.o.own;have q0:=hcat _ _ hx0;have q1:=hcat _ _ hx1;have q2:=hcat _ _ hx2;have q3:=hcat _ _ hx3;simp only[Nat.zero_add] at q0 q1 q2 q3;have HP2:=zH htp;obtain⟨x0,x1,x2,x3⟩:=cells4 HJ.o.rbx;have hi0:=zP j;have hi1:(j:Int)<(at_.length:Int):=by omega
  have hi3:(0:Int)<=(at_[j]:Int):=zP _;have hi4:(at_[j]:Int)<(s.length:Int):=by omega
  have hi5:(0:Int)<=(j:Int)+1:=by omega
  have hi6:(j:Int)+1<(parts.length:Int):=by omega
  have hi7:IntKind.i64.wrap ((j:Int)+1)=(j:Int)+1:=Zi _ (by omega);have hi8:((j:Int)+1).toNat=j+1:=by omega
  clear hca hT0 hcat hx0 hx1 hx2 hx3 htp hnd hnd2 hT1 bel;go_wp2_with fail;refine Zs 11 ?_;simp only[Zc,List.take_zero,List.drop_succ_cons,List.drop_zero];change wpStill Tryz.prog _ wr.drew _ _ _;repeat still_step
  try refine wpStill_nil ?_
  change wpList _ _ _ _ _ wr.drew;obtain⟨wz,hwz⟩:∃wz,wr.drew=wz:=⟨_,rfl⟩;rw[hwz];have bz:zb wr wz:=by rw[<-hwz];exact(zB _ _).drew
  have hzs:=eq2 (show wz.heap.size=wr.heap.size by rw[<-hwz];rfl);have KP:∀t v0 v1 v2 v3,TreeP (fun b=>(b<w0.heap.size/\F)\/(wa.heap.size<=b/\b≠O)) wr t v0 v1 v2 v3->TreeVP (fun b=>(b<w0.heap.size/\F)\/(wa.heap.size<=b/\b≠O)) wz t (.agg #[v0,v1,v2,v3]):=fun t v0 v1 v2 v3 h=>⟨v0,v1,v2,v3,rfl,TreeP.keep (fun b _ hlt=>bz.block b hlt) bz.size (fun _ _ h=>h) _ _ _ _ _ h⟩;have HT0z:TreeVP (fun b=>(b<w0.heap.size/\F)\/(wa.heap.size<=b/\b≠O)) wz s[at_[j]].tree (.agg (zT k1 n1 p1 B1 us1 c1)):=by
   obtain⟨u0,u1,u2,u3,eu,hu⟩:=HT0.o;cases eu;exact KP _ _ _ _ _ hu
  have CJ:=zH (join_any _ _ _ _ _ _ wz _ hsx.1 HT0z (KP _ _ _ _ _ HJ.o.tree) (KP _ _ _ _ _ HP2.o));clear hwz HT0z KP;go_wp2_with fail;refine CJ.o.mono ?_;rintro ee w5⟨⟨v5,rfl,hv5⟩,hb5⟩;obtain⟨k5,n5,p5,us5,A5,c5,e5,rfl,tp5⟩:=hv5.parts4;have b5:zb wr w5:=bz.trans (hb5.mono (by omega));have qo5:=(b5.block _ (zL HJ.o.rbx)).trans HJ.o.rbx;obtain⟨s1,s2,s3,s4,g1,g2,g3,g4,⟨y0,y1,y2,y3⟩,⟨f0,f1,f2,f3⟩,hq,ho⟩:=put4 qo5 (zI k5) (S n5) (zI p5) (.slice A5 us5.length c5);have tp5':TreeP (fun b=>((b<w0.heap.size/\F)\/(wa.heap.size<=b/\b≠O))\/wr.heap.size<=b) w5 _ _ _ _ _:=TreeP.keep (fun _ _ _=>rfl) (zN _) (fun b _ hb=>by rcases hb with hb | hb;exact .inl hb;exact .inr (by omega)) _ _ _ _ _ tp5;have HN:=zH (HJ.o.next hrba (by omega) b5 tp5' hq ho);clear hi7 hi8;have HT2:Hid (joinT s[at_[j]].tree t parts[j+1]=joinL z0 (((opTrees s at_).zip (parts.drop 1)).take (j+1))):=zH (by rw[HSTEP.o,HX.o,HT.o]);clear hq ho qo5 tp5 tp5' hv5 e5 b5;go_wp2_with fail;go_roundw;case rel=>exact⟨j+1,_,_,_,_,_,_,_,by go_num,by omega,HN,HT2⟩
  case measure=>simp[intOf];omega
 have hje:j=at_.length:=by omega
 have hzl:((opTrees s at_).zip (parts.drop 1)).length<=j:=by rw[List.length_zip,List.length_drop];simp[opTrees];omega
 rw[List.take_of_length_le hzl] at HT;obtain⟨x0,x1,x2,x3⟩:=cells4 HJ.o.rbx;have qr:=HJ.o.oth.heap QR.o (by omega);obtain⟨s1,s2,s3,s4,g1,g2,g3,g4,⟨y0,y1,y2,y3⟩,⟨f0,f1,f2,f3⟩,hq,ho⟩:=put4 qr (zI k) (S n) (zI p) (.slice Ao us.length co);obtain⟨bad,hcb⟩:=HJ.o.env;have HF:=zH (oth_fin ((zE BA.o).trans HJ.o.oth) (zB _ _) ho (zN _) hrb hcb);have HO:=zH ho;have HQ:=zH hq;clear hq ho hcb qr;go_wp2_with fail;refine Zb (results_raw2 rfl _ _ _ _ _ _ _ rfl HQ.o) ?_;rw[HBIN.o,HJN.o,<-HT.o];refine⟨_,rfl,⟨_,_,_,_,rfl,?_⟩,HF.o.1,_,HF.o.2⟩;exact TreeP.keep (fun b hb hlt=>HO.o.block b hlt (fun e=>by have:=zO e;rcases hb with hb | hb;omega;have:=hb.1;omega)) HO.o.size (fun b _ hb=>by rcases hb with hb | hb;exact .inl hb;exact .inr (by have:=hb.1;omega)) _ _ _ _ _ HJ.o.tree
def RowO(q:Nat→Prop)(w:World):List Opd→List Value→Prop
 |[],xs=>xs=[]
 |x :: r,xs=>∃v0 v1 v2 v3 ys,xs=v0 :: v1 :: v2 :: v3 :: .bool x.closed :: ys∧TreeP q w x.tree v0 v1 v2 v3∧RowO q w r ys
theorem RowO.keep{q q':Nat→Prop}{w w':World}(hk:∀b,q b→b<w.heap.size→w'.heap[b]?=w.heap[b]?)(hs:w.heap.size≤w'.heap.size)(hq:∀b,b<w.heap.size→q b→q' b):∀{s:List Opd}{xs:List Value},RowO q w s xs→RowO q' w' s xs
 |[],xs,h=>by rw[RowO] at h ⊢;exact h
 |x :: r,xs,h=>by
  rw[RowO] at h ⊢;obtain⟨v0,v1,v2,v3,ys,rfl,ht,hr⟩:=h;exact⟨v0,v1,v2,v3,ys,rfl,TreeP.keep hk hs hq _ _ _ _ _ ht,hr.keep hk hs hq⟩
theorem RowO.append{q:Nat→Prop}{w:World}{us:List Opd}{zs:List Value}(hz:RowO q w us zs):∀{s:List Opd}{xs:List Value},RowO q w s xs→RowO q w (s++us) (xs++zs)
 |[],xs,h=>by rw[RowO] at h;subst h;exact hz
 |x :: r,xs,h=>by
  rw[RowO] at h;obtain⟨v0,v1,v2,v3,ys,rfl,ht,hr⟩:=h;rw[List.cons_append,RowO];exact⟨v0,v1,v2,v3,ys++zs,by simp,ht,RowO.append hz hr⟩
theorem RowO.one{q:Nat→Prop}{w:World}{x:Opd}{v0 v1 v2 v3:Value}(h:TreeP q w x.tree v0 v1 v2 v3):RowO q w [x] [v0,v1,v2,v3,.bool x.closed]:=⟨v0,v1,v2,v3,[],rfl,h,rfl⟩
theorem RowO.get{q:Nat→Prop}{w:World}:∀{s:List Opd}{xs:List Value}(i:Nat)(h:i<s.length),RowO q w s xs→∃v0 v1 v2 v3,xs[i*5]?=some v0∧xs[i*5+1]?=some v1∧xs[i*5+2]?=some v2∧xs[i*5+3]?=some v3∧xs[i*5+4]?=some (.bool s[i].closed)∧TreeP q w s[i].tree v0 v1 v2 v3
 |[],_,_,hi,_=>by simp at hi
 |x :: r,xs,0,_,h=>by
  rw[RowO] at h;obtain⟨v0,v1,v2,v3,ys,rfl,ht,_⟩:=h;exact⟨v0,v1,v2,v3,rfl,rfl,rfl,rfl,rfl,ht⟩
 |x :: r,xs,i+1,hi,h=>by
  rw[RowO] at h;obtain⟨v0,v1,v2,v3,ys,rfl,_,hr⟩:=h;have:=hr.get i (by simpa using hi);rw[show(i+1)*5=i*5+1+1+1+1+1 by omega];simpa using this
theorem RowO.opds{q:Nat→Prop}{w:World}{base c:Nat}{A:Option Addr}{s:List Opd}{xs:List Value}(h:w.ownsRow base 129 5 (.slice A s.length c) s.length xs)(hr:RowO q w s xs):OpdsAt w A s:=fun hne=>by
 rcases h.2 with⟨_,h0⟩ | ⟨g,cap,cur,hv,hbg,hg,_⟩
 ·exact absurd (Zz h0) hne
 injection hv with e1 _ e3;subst e1 e3;have hc:=own_cells h;refine⟨g,0,rfl,zL hg,fun i hi=>?_⟩;obtain⟨v0,v1,v2,v3,c0,c1,c2,c3,c4,ht⟩:=hr.get i hi;obtain⟨k,n,p,us,A,c,hnd,rfl,rfl,rfl,rfl⟩:=ht.node4;refine⟨k,n,p,us,A,c,hnd,hc _ _ c0,hc _ _ c1,hc _ _ c2,hc _ _ c3,hc _ _ c4,?_⟩;rw[←hnd];exact TreeVP.toV ⟨_,_,_,_,rfl,ht⟩
end Go.Proofs.YthajalgkjonaaaaGreatDoor
