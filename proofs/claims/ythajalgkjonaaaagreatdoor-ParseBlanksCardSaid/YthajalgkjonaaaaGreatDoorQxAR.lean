/- Parts of the proof that no input makes the law false: PaRun2,OrMem,PaItm,PaMb,PaSam,PaSam2. -/
import Derived.BigQuiet
import Derived.Test.YthajalgkjonaaaaGreatDoorQxAA
import Derived.Test.YthajalgkjonaaaaGreatDoorQxAB
import Derived.Test.YthajalgkjonaaaaGreatDoorQxAC
import Derived.Test.YthajalgkjonaaaaGreatDoorQxAD
import Derived.Test.YthajalgkjonaaaaGreatDoorQxAF
import Derived.Test.YthajalgkjonaaaaGreatDoorQxAQ
set_option linter.unusedVariables false
set_option linter.unusedSimpArgs false
namespace Go.Proofs.YthajalgkjonaaaaGreatDoor
open Go.RowKit
def Hd.from(G:Hd)(lo:Nat):Prop:=(∀a,G.A=some a→lo≤a.block)∧∀a,G.B=some a→lo≤a.block
structure Oth2(a b:Nat)(w w':World):Prop where
 os:w'.os=w.os
 tape:w'.tape=w.tape
 output:w'.output=w.output
 size:w.heap.size≤w'.heap.size
 block:∀k,k<w.heap.size→k≠a→k≠b→w'.heap[k]?=w.heap[k]?
theorem one_noStr{w:World}{g:Nat}{v:Value}{t:TypeId}(h:w.heap[g]?=some (.cells #[v] t (0,0)))(hv:∀s,v≠S s)(j:Nat)(s:List UInt8):w.cell? ⟨g,j,none⟩≠some (S s):=by
 rw[Lib.cell_of_heap h j]
 match j with
 |0=>intro e;exact hv s (by simpa using e)
 |j+1=>simp
theorem OpsAt.oth3{w w':World}{a b c:Nat}{A:Option Addr}{l:List Lfc.Op}(h:OpsAt w A l)(ha:∀j s,w.cell? ⟨a,j,none⟩≠some (S s))(hb:∀j s,w.cell? ⟨b,j,none⟩≠some (S s))(hc:∀j s,w.cell? ⟨c,j,none⟩≠some (S s))(ho:Oth3 a b c w w'):OpsAt w' A l:=⟨h.1,fun hne=>by
 obtain⟨g,o,hA,hlt,hcl⟩:=h.2 hne
 obtain⟨c0,_⟩:=hcl 0 (List.length_pos_iff.2 hne)
 have k:=fun j=>World.cell?_of_block (a:=⟨g,j,none⟩) (ho.block g hlt (fun e=>ha _ _ (e ▸ c0)) (fun e=>hb _ _ (e ▸ c0)) (fun e=>hc _ _ (e ▸ c0)))
 refine⟨g,o,hA,Nat.lt_of_lt_of_le hlt ho.size,fun i hi=>?_⟩
 obtain⟨c0,c1,c2⟩:=hcl i hi
 exact⟨(k _).trans c0,(k _).trans c1,(k _).trans c2⟩⟩
theorem PW.to2{w w':World}{P X lo k:Nat}{G:Hd}{p:Lfc.PE}(h:PW w P G p k)(hG:G.from lo)(hX:X<lo){k':Nat}(ho:Oth2 P X w w')(hc:w'.heap[P]?=some (.cells #[.slice G.A p.toks.length G.c,.int .i64 (k':Int),.int .i64 (p.fin:Int),.slice G.B p.ops.length G.d] 96 (0,0))):PW w' P G p k':=by
 have hn:=h.noStr
 obtain⟨_,⟨A,c,e,h1,h2⟩,hp,h3⟩:=h
 obtain⟨A',c',B',d'⟩:=G
 simp only at e h2 h3
 cases e
 refine⟨hc,⟨_,_,rfl,h1,fun hp=>?_⟩,hp,fun hne=>?_⟩
 ·obtain⟨b,o,hA,hlt,hcl⟩:=h2 hp
  have hbX:b≠X:=fun e=>by have:=hG.1 _ hA;simp only at this;omega
  have hbP:b≠P:=fun e=>by
   obtain⟨_,c1,_⟩:=hcl 0 _ (List.getElem?_eq_getElem hp)
   rw[e] at c1
   exact hn _ _ c1
  have q:=fun j=>World.cell?_of_block (a:=⟨b,j,none⟩) (ho.block b hlt hbP hbX)
  refine⟨b,o,hA,Nat.lt_of_lt_of_le hlt ho.size,fun i t ht=>?_⟩
  obtain⟨c0,c1,c2⟩:=hcl i t ht
  exact⟨(q _).trans c0,(q _).trans c1,(q _).trans c2⟩
 ·obtain⟨b,o,hA,hlt,hcl⟩:=h3 hne
  have hbX:b≠X:=fun e=>by have:=hG.2 _ hA;simp only at this;omega
  have hbP:b≠P:=fun e=>by
   obtain⟨c0,_⟩:=hcl 0 (List.length_pos_iff.2 hne)
   rw[e] at c0
   exact hn _ _ c0
  have q:=fun j=>World.cell?_of_block (a:=⟨b,j,none⟩) (ho.block b hlt hbP hbX)
  refine⟨b,o,hA,Nat.lt_of_lt_of_le hlt ho.size,fun i hi=>?_⟩
  obtain⟨c0,c1,c2⟩:=hcl i hi
  exact⟨(q _).trans c0,(q _).trans c1,(q _).trans c2⟩
def RdR(P X:Nat)(p:Lfc.PE)(W:World)(U:World→Prop)(V:List Lfc.Op→World→Prop):Lfc.PR (List Lfc.Op)→Ending→World→Prop
 |.out,_,_=>True
 |.err c a,e,w'=>e=Flt c a∧Oth2 P X W w'∧U w'
 |.ok l k,e,w'=>e=.returned (.tuple #[])∧(∃G,PW w' P G ⟨p.toks,p.fin,l⟩ k)∧Oth2 P X W w'∧V l w'
def RunR(X:Nat)(n:Nat)(w:World)(U:World→Prop)(V:List Lfc.Op→World→Prop):Lfc.PR (List Lfc.Op)→Ending→World→Prop
 |.out,_,_=>True
 |.err c a,e,w'=>e=.returned (.tuple #[.slice none 0 0,.int .i64 c,.int .i64 (a:Int)])∧Oth X w w'∧U w'
 |.ok l _,e,w'=>(∃A d,e=.returned (.tuple #[.slice A l.length d,.int .i64 0,.int .i64 (n:Int)])∧OpsAt w' A l)∧Oth X w w'∧V l w'
def _root_.Lfc.runP(s:List UInt8)(r:List Lfc.Tok→Lfc.PR (List Lfc.Op)):Lfc.PR (List Lfc.Op):=if (Lfc.lex s).2.1≠0 then .err (Lfc.lex s).2.1 (Lfc.lex s).2.2 else r (Lfc.lex s).1
set_option maxRecDepth 100000 in
set_option maxHeartbeats 4000000 in
theorem prun_any(rd:FuncId)(he:∀args w,(callFunc rd args).run Tryz.prog w=.ok (.enter rd args) w)(X:Nat)(l:List Lfc.Op)(A:Option Addr)(c:Nat)(s:List UInt8)(r:List Lfc.Tok→Lfc.PR (List Lfc.Op))(U:World→Prop)(V:List Lfc.Op→World→Prop)(w:World)
  (hl:l.length≤1000000) (ha:OpsAt w A l) (hs:s.length≤9223372036854775807) (hX:X<w.heap.size) (hr:(Lfc.lex s).2.1=0→r (Lfc.lex s).1≠.out)
  (hV:∀l W W',V l W→Oth3 w.heap.size (w.heap.size+1) (w.heap.size+2) W W'→V l W')
  (hU0:∀W,Below w.heap.size w W→U W) (hU:∀W W',U W→Oth3 w.heap.size (w.heap.size+1) (w.heap.size+2) W W'→U W')
  (hrd:∀(P:Nat)(G:Hd)(W:World),(Lfc.lex s).2.1=0→Below w.heap.size w W→w.heap.size+3≤P→PW W P G ⟨(Lfc.lex s).1,s.length,l⟩ 0→POk ⟨(Lfc.lex s).1,s.length,l⟩→G.from (w.heap.size+3) →
   Calls Tryz.prog rd #[.pointer (some ⟨P,0,none⟩),.pointer (some ⟨X,0,none⟩)] W (RdR P X ⟨(Lfc.lex s).1,s.length,l⟩ W U V (r (Lfc.lex s).1))) :
  Calls Tryz.prog 33 #[.slice A l.length c,S s,.func (.func rd) #[] #[.pointer (some ⟨X,0,none⟩)]] w (RunR X s.length w U V (Lfc.runP s r)):=by
 have hmf:∀(fn:Fn)(first cap:Array Value)(w:World),(Instr.makeFunc fn first cap).run Tryz.prog w=.ok (.func fn first cap) w:=fun _ _ _ _=>rfl
 obtain⟨wa,hwa⟩:∃wa,((w.alloc (.cells #[.slice none 0 0] 26)).alloc (.cells #[.int .i64 0] 27)).alloc (.cells #[.int .i64 0] 3)=wa:=⟨_,rfl⟩
 have ba:Below w.heap.size w wa:=by rw[←hwa];exact(((Below.refl _ _).alloc (Nat.le_refl _) _).alloc (by simp) _).alloc (by simp;omega) _
 have q0:wa.heap[w.heap.size]?=some (.cells #[.slice none 0 0] 26 (0,0)):=by rw[←hwa];exact heap_alloc_old _ _ _ _ (heap_alloc_old _ _ _ _ (heap_alloc_new _ _))
 have q1:wa.heap[w.heap.size+1]?=some (.cells #[.int .i64 0] 27 (0,0)):=by
  rw[←hwa]
  have:=heap_alloc_new (w.alloc (.cells #[.slice none 0 0] 26)) (.cells #[.int .i64 0] 27)
  exact heap_alloc_old _ _ _ _ (by simpa using this)
 have q2:wa.heap[w.heap.size+2]?=some (.cells #[.int .i64 0] 3 (0,0)):=by
  rw[←hwa]
  have:=heap_alloc_new ((w.alloc (.cells #[.slice none 0 0] 26)).alloc (.cells #[.int .i64 0] 27)) (.cells #[.int .i64 0] 3)
  simpa using this
 have hsa:=eq2 (show wa.heap.size=w.heap.size+3 by rw[←hwa];simp)
 have CLX:=Lib.hid (lex_any s wa hs)
 have HRD:=Lib.hid hrd
 have HV:=Lib.hid hV
 have HU0:=Lib.hid hU0
 have HU:=Lib.hid hU
 have HR:=Lib.hid hr
 have HA:=Lib.hid ha
 have BA:=Lib.hid ba
 have Q0:=Lib.hid q0
 have Q1:=Lib.hid q1
 have Q2:=Lib.hid q2
 obtain⟨⟨toks,le,lat⟩,hL⟩:∃L,Lfc.lex s=L:=⟨_,rfl⟩
 have HRP:Hid (Lfc.runP s r=if le≠0 then .err le lat else r toks):=Lib.hid (by unfold Lfc.runP;rw[hL])
 rw[hL] at CLX HRD HR
 have HL:=Lib.hid hL
 clear hrd hV hU0 hU hr ha ba q0 q1 q2 hL
 simp only at CLX HRD HR
 go_enter_defers Tryz.func33,Tryz.ntmps33
 go_upto_region 1 with fail
 clear hwa
 rw[show w.heap.size+1+1=w.heap.size+2 from rfl]
 go_upto_region 2 with(go_at_call 22;refine CLX.out.mono ?_;rintro e w1⟨v,rfl,hown,b1⟩;have hs1:=b1.size;have q1:=(b1.block _ (by omega)).trans Q1.out;have q2:=(b1.block _ (by omega)).trans Q2.out;have y1:=Lib.cell_of_heap q1 0;have f1:=Lib.frozen_of_heap q1 0;obtain⟨w2,hw2⟩:∃w2,w1.setCell ⟨w.heap.size+1,0,none⟩ (.int .i64 le)=w2:=⟨_,rfl⟩;have o12:Oth (w.heap.size+1) w1 w2:=(by rw[←hw2];exact Oth.set _ _);have q2':=o12.heap q2 (by omega);have y2:=Lib.cell_of_heap q2' 0;have f2:=Lib.frozen_of_heap q2' 0)
 obtain⟨w3,hw3⟩:∃w3,w2.setCell ⟨w.heap.size+2,0,none⟩ (.int .i64 (lat:Int))=w3:=⟨_,rfl⟩
 have o23:Oth (w.heap.size+2) w2 w3:=by rw[←hw3];exact Oth.set _ _
 have hs2:=o12.size
 have hs3:=o23.size
 have p0:w3.heap[w.heap.size]?=some (.cells #[.slice none 0 0] 26 (0,0)):=o23.heap (o12.heap ((b1.block _ (by omega)).trans Q0.out) (by omega)) (by omega)
 have p1:w3.heap[w.heap.size+1]?=some (.cells #[.int .i64 le] 27 (0,0)):=o23.heap (by rw[←hw2];exact one_set q1) (by omega)
 have p2:w3.heap[w.heap.size+2]?=some (.cells #[.int .i64 (lat:Int)] 3 (0,0)):=by rw[←hw3];exact one_set q2'
 rw[hw3]
 have b3:Below w.heap.size w w3:=Oth.below (Oth.below (BA.out.trans (b1.mono (by omega))) o12 (by omega) (by omega)) o23 (by omega) (by omega)
 have own3:w3.ownsRow wa.heap.size 65 3 v toks.length (tokCells toks):=(hown.kept o12 (Or.inr (fun e=>by have:=(hown.lt _ e).1;omega))).kept o23 (Or.inr (fun e=>by have:=(hown.lt _ e).1;omega))
 have P0:=Lib.hid p0
 have P1:=Lib.hid p1
 have P2:=Lib.hid p2
 have B3:=Lib.hid b3
 have OWN:=Lib.hid own3
 have x1:=Lib.cell_of_heap p1 0
 have x2:=Lib.cell_of_heap p2 0
 simp at x1 x2
 clear hw2 hw3 q1 q2 y1 f1 o12 q2' y2 f2 o23 own3 hown b1 b3
 by_cases hle:le=0
 ·subst hle
  have HF:Hid (Lfc.runP s r=r toks):=Lib.hid (by rw[HRP.out,if_neg (by simp)])
  rw[HF.out]
  have CC:=Lib.hid (oclone_any l A c w3 (by omega) (HA.out.below B3.out))
  obtain⟨At,ct,rfl⟩:=own_form OWN.out
  have hTA:=TokAt.of_own OWN.out
  have hn3:=eq2 (show w3.heap.size=w3.heap.size from rfl)
  go_upto_region 5 with(go_at_call 61;refine CC.out.mono ?_;rintro e w4⟨Ao,co,rfl,hown4,b4⟩)
  obtain⟨w5,hw5⟩:∃w5,w4.alloc (.cells #[.slice At toks.length ct,.int .i64 0,.int .i64 (s.length:Int),.slice Ao l.length co] 96)=w5:=⟨_,rfl⟩
  have b5:Below w4.heap.size w4 w5:=by rw[←hw5];exact(Below.refl _ _).alloc (Nat.le_refl _) _
  have q5:w5.heap[w4.heap.size]?=some (.cells #[.slice At toks.length ct,.int .i64 0,.int .i64 (s.length:Int),.slice Ao l.length co] 96 (0,0)):=by rw[←hw5];exact heap_alloc_new _ _
  rw[hw5]
  have hg:=Lfc.lex_good (l:=s) (by rw[HL.out])
  rw[HL.out] at hg
  obtain⟨hg1,hg2,hg3⟩:=hg
  simp only at hg2 hg3
  have hs4:=b4.size
  have hs5:=b5.size
  have hok:POk ⟨toks,s.length,l⟩:=⟨hg2,hg1,hl,fun t ht=>⟨by have:=(Lfc.valid_le (hg3 t ht)).1;omega,fun _=>(Lfc.valid_le (hg3 t ht)).2⟩⟩
  have hpw:PW w5 w4.heap.size ⟨At,ct,Ao,co⟩ ⟨toks,s.length,l⟩ 0:=⟨q5,(hTA.below b4).below b5,(OpsAt.of_own HA.out.1 hown4.out).below b5⟩
  have hbw5:Below w.heap.size w w5:=B3.out.trans ((b4.trans (b5.mono hs4)).mono (by omega))
  have hfrom:Hd.from ⟨At,ct,Ao,co⟩ (w.heap.size+3):=⟨fun a e=>by have:=OWN.out.lt a.block (by show Value.ownBlock (.slice At toks.length ct)=_;rw[show At=some a from e];rfl);omega,fun a e=>by have:=hown4.out.lt a.block (by show Value.ownBlock (.slice Ao l.length co)=_;rw[show Ao=some a from e];rfl);omega⟩
  have CR:=Lib.hid (HRD.out _ _ w5 trivial hbw5 (by omega) hpw hok hfrom)
  have hne:=HR.out trivial
  have R0:=Lib.hid ((b5.block _ (by omega)).trans ((b4.block _ (by omega)).trans P0.out))
  have R1:=Lib.hid ((b5.block _ (by omega)).trans ((b4.block _ (by omega)).trans P1.out))
  have R2:=Lib.hid ((b5.block _ (by omega)).trans ((b4.block _ (by omega)).trans P2.out))
  have BW5:=Lib.hid hbw5
  clear hpw hok hbw5 hfrom hw5 b5 q5 b4 hown4 hTA p0 p1 p2 x1 x2
  generalize hP:w4.heap.size=P at *
  cases hr:r toks with
  |out=>exact absurd hr hne
  | err cc aa =>
   rw[hr] at CR
   have HRR:=Lib.hid hr
   clear hr hne
   go_wp2_with fail
   refine CR.out.mono ?_
   rintro e w6⟨rfl,o6,hu6⟩
   have HU6:=Lib.hid hu6
   clear hu6
   have q60:=(o6.block _ (lt_of_block R0.out) (by omega) (by omega)).trans R0.out
   have q61:=(o6.block _ (lt_of_block R1.out) (by omega) (by omega)).trans R1.out
   have q62:=(o6.block _ (lt_of_block R2.out) (by omega) (by omega)).trans R2.out
   have O6:=Lib.hid o6
   clear o6
   go_wp2_with fail
   refine leaves_cons (f:=62) (args:=#[.pointer (some ⟨w.heap.size,0,none⟩),.pointer (some ⟨w.heap.size+1,0,none⟩),.pointer (some ⟨w.heap.size+2,0,none⟩)]) (by simp) (by simp[go_sem]) ?_
   refine(catch_fault w.heap.size (w.heap.size+1) (w.heap.size+2) cc aa _ _ _ w6 q60 q61 q62 (by omega) (by omega) (by omega)).mono ?_
   rintro e u' w7⟨rfl,rfl,q70,q71,q72,o7⟩
   have c0:=Lib.cell_of_heap q70 0
   have c1:=Lib.cell_of_heap q71 0
   have c2:=Lib.cell_of_heap q72 0
   simp at c0 c1 c2
   simp[Leaves,settle,results,Tryz.results33,go_sem,c0,c1,c2]
   rw[HF.out,HRR.out]
   have hz:=BW5.out.size
   have hz6:=O6.out.size
   exact⟨rfl,⟨o7.os.trans (O6.out.os.trans BW5.out.os),o7.tape.trans (O6.out.tape.trans BW5.out.tape),o7.output.trans (O6.out.output.trans BW5.out.output),Nat.le_trans hz (Nat.le_trans hz6 o7.size),fun k hk hne=>by
    rw[o7.block k (by omega) (by omega) (by omega) (by omega),O6.out.block k (by omega) (by omega) (fun e=>hne (by rw[e])),BW5.out.block k hk]⟩,HU.out _ _ HU6.out o7⟩
  | ok l' k' =>
   rw[hr] at CR
   have HRR:=Lib.hid hr
   clear hr hne
   go_wp2_with fail
   refine CR.out.mono ?_
   rintro e w6⟨rfl,⟨G,h6⟩,o6,hv6⟩
   have q60:=(o6.block _ (lt_of_block R0.out) (by omega) (by omega)).trans R0.out
   have q61:=(o6.block _ (lt_of_block R1.out) (by omega) (by omega)).trans R1.out
   have q62:=(o6.block _ (lt_of_block R2.out) (by omega) (by omega)).trans R2.out
   obtain⟨_,_,_,x3,_,_,ho6,_⟩:=h6.cells
   obtain⟨s1,s2,s3,e1,e2,e3,⟨y0,y1,y2⟩,⟨f0,f1,f2⟩,HQ⟩:=put111 q60 q61 q62 (by omega) (by omega) (by omega) (.slice G.B l'.length G.d) (.int .i64 0) (.int .i64 (s.length:Int))
   have HO6:=Lib.hid ho6
   have HNS:=Lib.hid (And.intro (one_noStr q60 (by simp)) (And.intro (one_noStr q61 (by simp)) (one_noStr q62 (by simp))))
   have HV6:=Lib.hid hv6
   have O6:=Lib.hid o6
   simp only at x3
   clear q60 q61 q62 ho6 hv6 o6 h6
   go_wp2_with fail
   refine leaves_cons (f:=62) (args:=#[.pointer (some ⟨w.heap.size,0,none⟩),.pointer (some ⟨w.heap.size+1,0,none⟩),.pointer (some ⟨w.heap.size+2,0,none⟩)]) (by simp) (by simp[go_sem]) ?_
   refine(catch_idle _ _ _ s3).mono ?_
   rintro e u' w7⟨rfl,rfl,rfl⟩
   obtain⟨q70,q71,q72,o7⟩:=HQ.out
   have c0:=Lib.cell_of_heap q70 0
   have c1:=Lib.cell_of_heap q71 0
   have c2:=Lib.cell_of_heap q72 0
   simp at c0 c1 c2
   simp[Leaves,settle,results,Tryz.results33,go_sem,c0,c1,c2]
   rw[HF.out,HRR.out]
   have hz:=BW5.out.size
   have hz6:=O6.out.size
   obtain⟨n0,n1,n2⟩:=HNS.out
   exact⟨⟨_,_,rfl,HO6.out.oth3 n0 n1 n2 o7⟩,⟨o7.os.trans (O6.out.os.trans BW5.out.os),o7.tape.trans (O6.out.tape.trans BW5.out.tape),o7.output.trans (O6.out.output.trans BW5.out.output),Nat.le_trans hz (Nat.le_trans hz6 o7.size),fun k hk hne=>by
    rw[o7.block k (by omega) (by omega) (by omega) (by omega),O6.out.block k (by omega) (by omega) (fun e=>hne (by rw[e])),BW5.out.block k hk]⟩,HV.out _ _ _ HV6.out o7⟩
 ·have hle2:(le != 0)=true:=by simpa using hle
  have HF:Hid (Lfc.runP s r=.err le lat):=Lib.hid (by rw[HRP.out,if_pos hle])
  rw[HF.out]
  obtain⟨s1,s2,s3,e1,e2,e3,⟨y0,y1,y2⟩,⟨f0,f1,f2⟩,HQ⟩:=put111 (W:=w3.drew) p0 p1 p2 (by omega) (by omega) (by omega) (.slice none 0 0) (.int .i64 le) (.int .i64 (lat:Int))
  have o1:Oth w.heap.size w3.drew s1:=by rw[←e1];exact Oth.set _ _
  have o2:Oth (w.heap.size+1) s1 s2:=by rw[←e2];exact Oth.set _ _
  have x11:=Lib.cell_of_heap (o1.heap p1 (by omega)) 0
  have x12:=Lib.cell_of_heap (o1.heap p2 (by omega)) 0
  have x21:s2.cell? ⟨w.heap.size+1,0,none⟩=some (.int .i64 le):=by rw[←e2];exact Lib.cell_of_heap (one_set (o1.heap p1 (by omega))) 0
  have x22:=Lib.cell_of_heap (o2.heap (o1.heap p2 (by omega)) (by omega)) 0
  simp at x11 x12 x22
  clear o1 o2 p0 p1 p2
  go_wp2_with fail
  go_region
  go_wp2_with fail
  obtain⟨q70,q71,q72,o7⟩:=HQ.out
  have c0:=Lib.cell_of_heap q70 0
  have c1:=Lib.cell_of_heap q71 0
  have c2:=Lib.cell_of_heap q72 0
  simp at c0 c1 c2
  simp[bodyPostD,Leaves,settle,results,Tryz.results33,go_sem,c0,c1,c2]
  rw[HF.out]
  have hz:=B3.out.size
  exact⟨rfl,⟨o7.os.trans B3.out.os,o7.tape.trans B3.out.tape,o7.output.trans B3.out.output,Nat.le_trans hz o7.size,fun k hk hne=>by
   rw[o7.block k (by show k<w3.heap.size;omega) (by omega) (by omega) (by omega)]
   exact B3.out.block k hk⟩,HU.out w3.drew s3 (HU0.out _ B3.out.drew) o7⟩
end Go.Proofs.YthajalgkjonaaaaGreatDoor
namespace Go.Proofs.YthajalgkjonaaaaGreatDoor
open Go.RowKit
mutual
def OrdC(w:World):Lfc.Ord→Value→Value→Value→Prop
 |.node k a ts,v0,v1,v2=>v0=.int .i64 k∧v1=.int .i64 a∧∃A c,v2=.slice A ts.length c∧ts.length≤c∧(ts≠[]→∃b o,A=some ⟨b,o,none⟩∧b<w.heap.size∧OrdsO w b ts o)
def OrdsO(w:World)(b:Nat):List Lfc.Ord→Nat→Prop
 |[],_=>True
 |t :: r,o=>(∃v0 v1 v2,w.cell? ⟨b,o,none⟩=some v0∧w.cell? ⟨b,o+1,none⟩=some v1∧w.cell? ⟨b,o+2,none⟩=some v2∧OrdC w t v0 v1 v2)∧OrdsO w b r (o+3)
end
mutual
theorem OrdC.below{w w':World}(hb:Below w.heap.size w w'):∀(t:Lfc.Ord)(v0 v1 v2:Value),OrdC w t v0 v1 v2→OrdC w' t v0 v1 v2
 |.node k a ts,v0,v1,v2,h=>by
  rw[OrdC] at h ⊢
  obtain⟨h0,h1,A,c,h3,h4,h5⟩:=h
  refine⟨h0,h1,A,c,h3,h4,fun hne=>?_⟩
  obtain⟨b,o,hA,hlt,hts⟩:=h5 hne
  exact⟨b,o,hA,Nat.lt_of_lt_of_le hlt hb.size,OrdsO.below hb ts b o hlt hts⟩
theorem OrdsO.below{w w':World}(hb:Below w.heap.size w w'):∀(ts:List Lfc.Ord)(b o:Nat),b<w.heap.size→OrdsO w b ts o→OrdsO w' b ts o
 |[],_,_,_,_=>by rw[OrdsO];trivial
 |t :: r,b,o,hlt,h=>by
  rw[OrdsO] at h ⊢
  obtain⟨⟨v0,v1,v2,c0,c1,c2,ht⟩,hr⟩:=h
  exact⟨⟨v0,v1,v2,(hb.cell (p:=⟨b,_,none⟩) hlt).trans c0,(hb.cell (p:=⟨b,_,none⟩) hlt).trans c1,(hb.cell (p:=⟨b,_,none⟩) hlt).trans c2,OrdC.below hb t v0 v1 v2 ht⟩,OrdsO.below hb r b (o+3) hlt hr⟩
end
theorem OrdsO.at_{w:World}{b:Nat}:∀(ts:List Lfc.Ord)(o i:Nat)(t:Lfc.Ord),OrdsO w b ts o→ts[i]?=some t →
  ∃v0 v1 v2,w.cell? ⟨b,o+i*3,none⟩=some v0∧w.cell? ⟨b,o+i*3+1,none⟩=some v1∧w.cell? ⟨b,o+i*3+2,none⟩=some v2∧OrdC w t v0 v1 v2:=by
 intro ts
 induction ts with
 |nil=>intro o i t _ h;simp at h
 | cons a r ih =>
  intro o i t h hi
  rw[OrdsO] at h
  cases i with
  |zero=>simp at hi;subst hi;simpa using h.1
  |succ i =>
   have:=ih (o+3) i t h.2 (by simpa using hi)
   rw[show o+(i+1)*3=o+3+i*3 by omega]
   exact this
def OrdV(w:World)(t:Lfc.Ord)(v:Value):Prop:=∃v0 v1 v2,v=.agg #[v0,v1,v2]∧OrdC w t v0 v1 v2
theorem OrdV.below{w w':World}{t:Lfc.Ord}{v:Value}(h:OrdV w t v)(hb:Below w.heap.size w w'):OrdV w' t v:=by
 obtain⟨v0,v1,v2,rfl,h⟩:=h
 exact⟨v0,v1,v2,rfl,OrdC.below hb t _ _ _ h⟩
def OrdsAt(w:World)(A:Option Addr)(ts:List Lfc.Ord):Prop:=ts≠[]→∃b o,A=some ⟨b,o,none⟩∧b<w.heap.size∧OrdsO w b ts o
theorem OrdsAt.below{w w':World}{A:Option Addr}{ts:List Lfc.Ord}(h:OrdsAt w A ts)(hb:Below w.heap.size w w'):OrdsAt w' A ts:=fun hne=>by
 obtain⟨b,o,hA,hlt,h⟩:=h hne
 exact⟨b,o,hA,Nat.lt_of_lt_of_le hlt hb.size,OrdsO.below hb ts b o hlt h⟩
theorem OrdV.open_{w:World}{k a:Int}{ts:List Lfc.Ord}{v:Value}(h:OrdV w (.node k a ts) v):∃A c,v=.agg #[.int .i64 k,.int .i64 a,.slice A ts.length c]∧ts.length≤c∧OrdsAt w A ts:=by
 obtain⟨v0,v1,v2,rfl,h⟩:=h
 rw[OrdC] at h
 obtain⟨rfl,rfl,A,c,rfl,hc,h⟩:=h
 exact⟨A,c,rfl,hc,h⟩
theorem OrdV.mk{w:World}{k a:Int}{ts:List Lfc.Ord}{A:Option Addr}{c:Nat}(hc:ts.length≤c)(h:OrdsAt w A ts):OrdV w (.node k a ts) (.agg #[.int .i64 k,.int .i64 a,.slice A ts.length c]) :=
 ⟨_,_,_,rfl,by rw[OrdC];exact⟨rfl,rfl,A,c,rfl,hc,h⟩⟩
theorem OrdsAt.at_{w:World}{A:Option Addr}{ts:List Lfc.Ord}(h:OrdsAt w A ts){i:Nat}(hi:i<ts.length) :
  ∃b o k a us B c,A=some ⟨b,o,none⟩∧b<w.heap.size∧ts[i]=.node k a us∧w.cell? ⟨b,o+i*3,none⟩=some (.int .i64 k)∧w.cell? ⟨b,o+i*3+1,none⟩=some (.int .i64 a)∧w.cell? ⟨b,o+i*3+2,none⟩=some (.slice B us.length c) ∧
   us.length≤c∧OrdsAt w B us∧OrdV w ts[i] (.agg #[.int .i64 k,.int .i64 a,.slice B us.length c]):=by
 obtain⟨b,o,hA,hlt,hts⟩:=h (by intro h0;rw[h0] at hi;simp at hi)
 obtain⟨v0,v1,v2,c0,c1,c2,ht⟩:=OrdsO.at_ ts o i ts[i] hts (List.getElem?_eq_getElem hi)
 cases ht':ts[i] with
 |node k a us =>
  rw[ht'] at ht
  have htv:OrdV w (.node k a us) (.agg #[v0,v1,v2]):=⟨v0,v1,v2,rfl,ht⟩
  rw[OrdC] at ht
  obtain⟨rfl,rfl,B,c,rfl,hc,hB⟩:=ht
  exact⟨b,o,k,a,us,B,c,hA,hlt,rfl,c0,c1,c2,hc,hB,htv⟩
theorem cells3o{W:World}{g:Nat}{v0 v1 v2:Value}{t:TypeId}(h:W.heap[g]?=some (.cells #[v0,v1,v2] t (0,0))):W.cell? ⟨g,0,none⟩=some v0∧W.cell? ⟨g,1,none⟩=some v1∧W.cell? ⟨g,2,none⟩=some v2 :=
 ⟨Lib.cell_of_heap h 0,Lib.cell_of_heap h 1,Lib.cell_of_heap h 2⟩
end Go.Proofs.YthajalgkjonaaaaGreatDoor
namespace Go.Proofs.YthajalgkjonaaaaGreatDoor
open Go.RowKit
def Stays(q:Nat→Prop)(w:World)(F:World→Prop):Prop:=∀w',w.heap.size≤w'.heap.size→(∀b,q b→b<w.heap.size→w'.heap[b]?=w.heap[b]?)→F w'
theorem Stays.here{q:Nat→Prop}{w:World}{F:World→Prop}(h:Stays q w F):F w:=h w (Nat.le_refl _) fun _ _ _=>rfl
theorem Stays.to{q q':Nat→Prop}{w w':World}{F:World→Prop}(h:Stays q w F)(hs:w.heap.size≤w'.heap.size)(hk:∀b,q b→b<w.heap.size→w'.heap[b]?=w.heap[b]?)(hq:∀b,b<w.heap.size→q b→q' b):Stays q' w' F:=fun w2 h1 h2 =>
 h w2 (Nat.le_trans hs h1) fun b hb hlt=>(h2 b (hq b hlt hb) (Nat.lt_of_lt_of_le hlt hs)).trans (hk b hb hlt)
theorem Stays.imp{q:Nat→Prop}{w:World}{F F':World→Prop}(h:Stays q w F)(hi:∀W,F W→F' W):Stays q w F':=fun w' h1 h2=>hi _ (h w' h1 h2)
theorem Stays.and{q:Nat→Prop}{w:World}{F F':World→Prop}(h:Stays q w F)(h':Stays q w F'):Stays q w fun W=>F W∧F' W:=fun w' h1 h2=>⟨h w' h1 h2,h' w' h1 h2⟩
theorem Stays.all{q:Nat→Prop}{w:World}{F:World→Prop}(h:∀W,F W):Stays q w F:=fun w' _ _=>h w'
theorem Stays.oth2{lo P I:Nat}{w w':World}{F:World→Prop}(h:Stays (fun b=>lo≤b) w F)(o:Oth2 P I w w')(hP:P<lo)(hI:I<lo):Stays (fun b=>lo≤b) w' F :=
 h.to o.size (fun b hb hlt=>o.block b hlt (by omega) (by omega)) fun _ _ h=>h
def StrsAt(w:World)(A:Option Addr)(l:List (List UInt8)):Prop:=l≠[]→∃b o,A=some ⟨b,o,none⟩∧b<w.heap.size∧∀i(h:i<l.length),w.cell? ⟨b,o+i,none⟩=some (S l[i])
def NumsAt(w:World)(A:Option Addr)(l:List Int):Prop:=l≠[]→∃b o,A=some ⟨b,o,none⟩∧b<w.heap.size∧∀i(h:i<l.length),w.cell? ⟨b,o+i,none⟩=some (.int .i64 l[i])
def BndC(w:World)(b o:Nat)(x:Lfc.Bnd):Prop:=∃v0 v1 v2 v3,w.cell? ⟨b,o,none⟩=some (S x.1)∧x.1.length≤1000000∧w.cell? ⟨b,o+1,none⟩=some v0∧w.cell? ⟨b,o+2,none⟩=some v1∧w.cell? ⟨b,o+3,none⟩=some v2∧w.cell? ⟨b,o+4,none⟩=some v3∧TreeC w x.2 v0 v1 v2 v3
def BndsAt(w:World)(A:Option Addr)(l:List Lfc.Bnd):Prop:=l≠[]→∃b o,A=some ⟨b,o,none⟩∧b<w.heap.size∧∀i(h:i<l.length),BndC w b (o+i*5) l[i]
def FOrdC(w:World)(b o:Nat)(x:List UInt8 × Lfc.Ord):Prop:=∃v0 v1 v2,w.cell? ⟨b,o,none⟩=some (S x.1)∧x.1.length≤1000000∧w.cell? ⟨b,o+1,none⟩=some v0∧w.cell? ⟨b,o+2,none⟩=some v1∧w.cell? ⟨b,o+3,none⟩=some v2∧OrdC w x.2 v0 v1 v2
def FOrdsAt(w:World)(A:Option Addr)(l:List (List UInt8 × Lfc.Ord)):Prop:=l≠[]→∃b o,A=some ⟨b,o,none⟩∧b<w.heap.size∧∀i(h:i<l.length),FOrdC w b (o+i*4) l[i]
end Go.Proofs.YthajalgkjonaaaaGreatDoor
namespace Lfc
def Ord.k:Ord→Int
 |.node k _ _=>k
def Ord.a:Ord→Int
 |.node _ a _=>a
def Ord.ps:Ord→List Ord
 |.node _ _ ps=>ps
end Lfc
namespace Go.Proofs.YthajalgkjonaaaaGreatDoor
open Go.RowKit
structure IS where
 ty:Option Addr × Nat
 va:Option Addr × Nat
 so:Option Addr × Nat
 pa:Option Addr × Nat
 bl:Option Addr × Nat
 fa:Option Addr × Nat
 si:Option Addr × Nat
 od:Option Addr × Nat
 le:Option Addr × Nat
 ri:Option Addr × Nat
def IS.nil:IS:=⟨(none,0),(none,0),(none,0),(none,0),(none,0),(none,0),(none,0),(none,0),(none,0),(none,0)⟩
def itCells(x:Lfc.Itm)(s:IS):Array Value:=#[.int .i64 x.kind,.int .i64 (x.pos:Int),S x.name,.slice s.ty.1 x.type.length s.ty.2,.slice s.va.1 x.value.length s.va.2,S x.op.name,.int .i64 x.op.fix,.int .i64 x.op.prec,
 .slice s.so.1 x.som.length s.so.2,.slice s.pa.1 x.params.length s.pa.2,.slice s.bl.1 x.blocks.length s.bl.2,.slice s.fa.1 x.fams.length s.fa.2,.slice s.si.1 x.signs.length s.si.2,.slice s.od.1 x.orders.length s.od.2,
 .int .i64 x.left.k,.int .i64 x.left.a,.slice s.le.1 x.left.ps.length s.le.2,.int .i64 x.right.k,.int .i64 x.right.a,.slice s.ri.1 x.right.ps.length s.ri.2,.int .i64 x.rel,.int .i64 x.count]
structure ItV(w:World)(x:Lfc.Itm)(s:IS):Prop where
 name:x.name.length≤1000000
 opn:x.op.name.length≤1000000
 ty:TreesAt w s.ty.1 x.type∧x.type.length≤s.ty.2
 va:TreesAt w s.va.1 x.value∧x.value.length≤s.va.2
 so:BndsAt w s.so.1 x.som∧x.som.length≤s.so.2
 pa:BndsAt w s.pa.1 x.params∧x.params.length≤s.pa.2
 bl:StrsAt w s.bl.1 x.blocks∧x.blocks.length≤s.bl.2
 fa:StrsAt w s.fa.1 x.fams∧x.fams.length≤s.fa.2
 si:NumsAt w s.si.1 x.signs∧x.signs.length≤s.si.2
 od:FOrdsAt w s.od.1 x.orders∧x.orders.length≤s.od.2
 le:OrdsAt w s.le.1 x.left.ps∧x.left.ps.length≤s.le.2
 ri:OrdsAt w s.ri.1 x.right.ps∧x.right.ps.length≤s.ri.2
theorem ItV.nil(w:World)(a:Nat):ItV w (Lfc.Itm.new a) IS.nil:=by
 have h0:∀{α:Type}{P:Prop},((([]:List α)≠[])→P):=fun h=>absurd rfl h
 refine⟨?_,?_,⟨?_,?_⟩,⟨?_,?_⟩,⟨?_,?_⟩,⟨?_,?_⟩,⟨?_,?_⟩,⟨?_,?_⟩,⟨?_,?_⟩,⟨?_,?_⟩,⟨?_,?_⟩,⟨?_,?_⟩⟩ <;> first | exact h0 | exact Nat.zero_le _
def ItB(w:World)(I lo:Nat)(x:Lfc.Itm):Prop:=∃s,w.heap[I]?=some (.cells (itCells x s) 42 (0,0))∧Stays (fun b=>lo≤b) w fun W=>ItV W x s
def Hd.off(G:Hd)(p:Lfc.PE)(J:Nat):Prop:=(p.toks≠[]→∀a,G.A=some a→a.block≠J)∧(p.ops≠[]→∀a,G.B=some a→a.block≠J)
theorem Hd.from.off{G:Hd}{lo J:Nat}{p:Lfc.PE}(h:G.from lo)(hJ:J<lo):G.off p J:=⟨fun _ a e=>by have:=h.1 a e;omega,fun _ a e=>by have:=h.2 a e;omega⟩
theorem PW.off_new{w:World}{P k J:Nat}{G:Hd}{p:Lfc.PE}(h:PW w P G p k)(hJ:w.heap.size≤J):G.off p J:=by
 obtain⟨_,⟨A,c,e,h1,h2⟩,h3⟩:=h
 obtain⟨A',c',B',d'⟩:=G
 simp only at e h3
 cases e
 refine⟨fun hne a e=>?_,fun hne a e=>?_⟩
 ·obtain⟨b,o,hA,hlt,_⟩:=h2 (List.length_pos_iff.2 hne)
  rw[hA] at e
  cases e
  simp only;omega
 ·obtain⟨b,o,hA,hlt,_⟩:=h3.2 hne
  rw[hA] at e
  cases e
  simp only;omega
theorem PW.to3{w w':World}{P J k:Nat}{G:Hd}{p:Lfc.PE}(h:PW w P G p k)(hJ:G.off p J){k':Nat}(ho:Oth2 P J w w')(hc:w'.heap[P]?=some (.cells #[.slice G.A p.toks.length G.c,.int .i64 (k':Int),.int .i64 (p.fin:Int),.slice G.B p.ops.length G.d] 96 (0,0))):PW w' P G p k':=by
 have hn:=h.noStr
 obtain⟨_,⟨A,c,e,h1,h2⟩,hp,h3⟩:=h
 obtain⟨A',c',B',d'⟩:=G
 simp only at e h2 h3
 cases e
 refine⟨hc,⟨_,_,rfl,h1,fun hp=>?_⟩,hp,fun hne=>?_⟩
 ·obtain⟨b,o,hA,hlt,hcl⟩:=h2 hp
  have hbX:b≠J:=hJ.1 (List.length_pos_iff.1 hp) _ hA
  have hbP:b≠P:=fun e=>by
   obtain⟨_,c1,_⟩:=hcl 0 _ (List.getElem?_eq_getElem hp)
   rw[e] at c1
   exact hn _ _ c1
  have q:=fun j=>World.cell?_of_block (a:=⟨b,j,none⟩) (ho.block b hlt hbP hbX)
  refine⟨b,o,hA,Nat.lt_of_lt_of_le hlt ho.size,fun i t ht=>?_⟩
  obtain⟨c0,c1,c2⟩:=hcl i t ht
  exact⟨(q _).trans c0,(q _).trans c1,(q _).trans c2⟩
 ·obtain⟨b,o,hA,hlt,hcl⟩:=h3 hne
  have hbX:b≠J:=hJ.2 hne _ hA
  have hbP:b≠P:=fun e=>by
   obtain⟨c0,_⟩:=hcl 0 (List.length_pos_iff.2 hne)
   rw[e] at c0
   exact hn _ _ c0
  have q:=fun j=>World.cell?_of_block (a:=⟨b,j,none⟩) (ho.block b hlt hbP hbX)
  refine⟨b,o,hA,Nat.lt_of_lt_of_le hlt ho.size,fun i hi=>?_⟩
  obtain⟨c0,c1,c2⟩:=hcl i hi
  exact⟨(q _).trans c0,(q _).trans c1,(q _).trans c2⟩
theorem Oth2.refl(a b:Nat)(w:World):Oth2 a b w w:=⟨rfl,rfl,rfl,Nat.le_refl _,fun _ _ _ _=>rfl⟩
theorem Oth2.trans{a b:Nat}{w w1 w2:World}(h:Oth2 a b w w1)(h':Oth2 a b w1 w2):Oth2 a b w w2 :=
 ⟨h'.os.trans h.os,h'.tape.trans h.tape,h'.output.trans h.output,Nat.le_trans h.size h'.size,fun k hk h1 h2=>(h'.block k (Nat.lt_of_lt_of_le hk h.size) h1 h2).trans (h.block k hk h1 h2)⟩
theorem Oth2.left{a b:Nat}{w w1:World}(h:Oth a w w1):Oth2 a b w w1:=⟨h.os,h.tape,h.output,h.size,fun k hk h1 _=>h.block k hk (fun e=>h1 (Option.some.inj e))⟩
theorem Oth2.right{a b:Nat}{w w1:World}(h:Oth b w w1):Oth2 a b w w1:=⟨h.os,h.tape,h.output,h.size,fun k hk _ h2=>h.block k hk (fun e=>h2 (Option.some.inj e))⟩
structure ItF(w0 w:World)(P I:Nat)(G:Hd)(p:Lfc.PE)(k:Nat)(cs:Array Value):Prop where
 pw:PW w P G p k
 it:w.heap[I]?=some (.cells cs 42 (0,0))
 ne:I≠P
 off:G.off p I
 oth:Oth2 P I w0 w
 sz:cs.size=22
theorem ItF.call{w0 w w':World}{P I k k':Nat}{G:Hd}{p:Lfc.PE}{cs:Array Value}(h:ItF w0 w P I G p k cs)(hp:PW w' P G p k')(o:Oth P w w'):ItF w0 w' P I G p k' cs :=
 ⟨hp,o.heap h.it h.ne,h.ne,h.off,h.oth.trans (Oth2.left o),h.sz⟩
theorem ItF.below{w0 w w':World}{P I k:Nat}{G:Hd}{p:Lfc.PE}{cs:Array Value}(h:ItF w0 w P I G p k cs)(b:Below w.heap.size w w'):ItF w0 w' P I G p k cs :=
 h.call (h.pw.below b) (Oth.of_below b)
theorem ItF.lt{w0 w:World}{P I k:Nat}{G:Hd}{p:Lfc.PE}{cs:Array Value}(h:ItF w0 w P I G p k cs):I<w.heap.size:=lt_of_block h.it
theorem ItF.again{w0 w:World}{P I k:Nat}{G:Hd}{p:Lfc.PE}{cs:Array Value}(h:ItF w0 w P I G p k cs):ItF w w P I G p k cs:=⟨h.pw,h.it,h.ne,h.off,Oth2.refl _ _ _,h.sz⟩
theorem PW.oth{w w':World}{P J k:Nat}{G:Hd}{p:Lfc.PE}(h:PW w P G p k)(hJ:G.off p J)(hn:J≠P)(o:Oth J w w'):PW w' P G p k:=h.to3 hJ (Oth2.right o) (o.heap h.1 (Ne.symm hn))
theorem ItF.set{w0 w:World}{P I k:Nat}{G:Hd}{p:Lfc.PE}{cs:Array Value}(h:ItF w0 w P I G p k cs)(j:Nat)(v:Value)(hj:j<22) :
  ∃s u,w.setCell ⟨I,j,none⟩ v=s∧w.cell? ⟨I,j,none⟩=some u∧w.frozen? ⟨I,j,none⟩=false∧Hid (ItF w0 s P I G p k (cs.setIfInBounds j v)):=by
 refine⟨_,cs[j]'(by rw[h.sz];exact hj),rfl,(Lib.cell_of_heap h.it j).trans (Array.getElem?_eq_getElem _),Lib.frozen_of_heap h.it j,Lib.hid ?_⟩
 have o:Oth I w (w.setCell ⟨I,j,none⟩ v):=Oth.set _ _
 exact⟨h.pw.oth h.off h.ne o,by simp[World.setCell,Array.getElem?_modify,h.it],h.ne,h.off,h.oth.trans (Oth2.right o),by simpa using h.sz⟩
def ItRes(P I:Nat)(G:Hd)(p:Lfc.PE)(w:World):Lfc.ItR→Ending→World→Prop
 |.out,_,_=>True
 |.err c a,e,w'=>e=Flt c a∧Oth2 P I w w'
 |.ok x k,e,w'=>e=.returned (.tuple #[])∧(∃G',PW w' P G' ⟨p.toks,p.fin,x.2⟩ k∧∀J,J<w.heap.size→G.off p J→G'.off ⟨p.toks,p.fin,x.2⟩ J)∧ItB w' I w.heap.size x.1∧Oth2 P I w w'
theorem ItF.ret{w0 w:World}{P I k:Nat}{G:Hd}{p:Lfc.PE}{cs:Array Value}(h:ItF w0 w P I G p k cs)(x:Lfc.Itm)(s:IS)(hc:cs=itCells x s)(hv:Stays (fun b=>w0.heap.size≤b) w fun W=>ItV W x s):ItRes P I G p w0 (.ok (x,p.ops) k) (.returned (.tuple #[])) w :=
 ⟨rfl,⟨G,h.pw,fun _ _ h=>h⟩,⟨s,by rw[←hc];exact h.it,hv⟩,h.oth⟩
theorem expr_one{lo:Nat}{wc w1:World}{t:Lfc.Raw}{k q:Int}{n:List UInt8}{us:List Lfc.Raw}{A:Option Addr}{c:Nat}(ty:TypeId)(hs:lo≤wc.heap.size)(hz:wc.heap.size≤w1.heap.size)(hp:TreeP (fun b=>wc.heap.size≤b) w1 t (.int .i64 k) (S n) (.int .i64 q) (.slice A us.length c)) :
  ∃wb,w1.alloc (.cells #[.int .i64 k,S n,.int .i64 q,.slice A us.length c] ty)=wb∧Below w1.heap.size w1 wb∧Hid (Stays (fun b=>lo≤b) wb fun W=>TreesAt W (some ⟨w1.heap.size,0,none⟩) [t]):=by
 refine⟨_,rfl,(Below.refl _ _).alloc (Nat.le_refl _) _,Lib.hid fun w' h1 h2 _=>?_⟩
 have b1:Below w1.heap.size w1 (w1.alloc (.cells #[.int .i64 k,S n,.int .i64 q,.slice A us.length c] ty)):=(Below.refl _ _).alloc (Nat.le_refl _) _
 have q1:(w1.alloc (.cells #[.int .i64 k,S n,.int .i64 q,.slice A us.length c] ty)).heap[w1.heap.size]?=some (.cells #[.int .i64 k,S n,.int .i64 q,.slice A us.length c] ty (0,0)):=heap_alloc_new _ _
 have hq:=(h2 w1.heap.size (Nat.le_trans hs hz) (lt_of_block q1)).trans q1
 have hp':TreeP (fun b=>lo≤b) w' t (.int .i64 k) (S n) (.int .i64 q) (.slice A us.length c):=TreeP.keep (fun b hb hlt=>(h2 b (Nat.le_trans hs hb) (Nat.lt_of_lt_of_le hlt b1.size)).trans (b1.block b hlt)) (Nat.le_trans b1.size h1) (fun b _ hb=>Nat.le_trans hs hb) _ _ _ _ _ hp
 exact⟨w1.heap.size,0,rfl,lt_of_block hq,TreesP.toC [t] _ _ ((RowP.one hp').lie fun j u hj=>by rw[Nat.zero_add,Lib.cell_of_heap hq j];simpa using hj)⟩
theorem ItF.rebase{w0 wb w:World}{P I k:Nat}{G:Hd}{p:Lfc.PE}{cs:Array Value}(h:ItF wb w P I G p k cs)(o:Oth2 P I w0 wb):ItF w0 w P I G p k cs:=⟨h.pw,h.it,h.ne,h.off,o.trans h.oth,h.sz⟩
theorem PW.ops{w:World}{P k:Nat}{G:Hd}{p:Lfc.PE}(h:PW w P G p k){A:Option Addr}{c:Nat}{l:List Lfc.Op}(ho:OpsAt w A l):PW (w.setCell ⟨P,3,none⟩ (.slice A l.length c)) P ⟨G.A,G.c,A,c⟩ ⟨p.toks,p.fin,l⟩ k:=by
 have hn:=h.noStr
 have o:Oth P w (w.setCell ⟨P,3,none⟩ (.slice A l.length c)):=Oth.set w _
 obtain⟨h1,h2,h3⟩:=h
 exact⟨by simp[World.setCell,Array.getElem?_modify,h1],h2.oth hn o,ho.oth hn o⟩
theorem name_le{p:Lfc.PE}(ok:POk p){k k':Nat}{n:List UInt8}(h:p.name k=.ok n k'):n.length≤1000000:=by
 obtain⟨h1,_,rfl⟩:=Lfc.PE.name_ok h
 have:=(ok.tok _ (List.mem_of_getElem? (PE.pk_of h1))).1
 omega
theorem _root_.Lfc.idxW_lt(s:List UInt8):∀ws:List (List UInt8),Lfc.idxW s ws<(ws.length:Int)
 |[]=>by simp[Lfc.idxW]
 |a :: r=>by
  have:=Lfc.idxW_lt s r
  rw[Lfc.idxW]
  simp only[List.length_cons]
  split
  ·omega
  ·split <;> omega
theorem _root_.Lfc.PE.word_ok{p:Lfc.PE}{k k':Nat}{i:Int}{ws:List (List UInt8)}(h:p.word k ws=.ok i k'):0≤i∧i<(ws.length:Int)∧(p.pk k).kind=1∧Lfc.idxW (p.pk k).text ws=i:=by
 unfold Lfc.PE.word at h
 split at h
 ·exact(Lfc.PE.unexp_ok h).elim
 ·rename_i hn
  cases h
  have:=Lfc.idxW_lt (p.pk k).text ws
  exact⟨Int.not_lt.1 fun e=>hn (.inl e),this,Decidable.byContradiction fun e=>hn (.inr e),rfl⟩
end Go.Proofs.YthajalgkjonaaaaGreatDoor
namespace Go.Proofs.YthajalgkjonaaaaGreatDoor
open Go.RowKit
theorem StrsAt.below{w w':World}{A:Option Addr}{l:List (List UInt8)}(h:StrsAt w A l)(hb:Below w.heap.size w w'):StrsAt w' A l:=fun hne=>by
 obtain⟨b,o,hA,hlt,hc⟩:=h hne
 exact⟨b,o,hA,Nat.lt_of_lt_of_le hlt hb.size,fun i hi=>(hb.cell (p:=⟨b,_,none⟩) hlt).trans (hc i hi)⟩
theorem NumsAt.below{w w':World}{A:Option Addr}{l:List Int}(h:NumsAt w A l)(hb:Below w.heap.size w w'):NumsAt w' A l:=fun hne=>by
 obtain⟨b,o,hA,hlt,hc⟩:=h hne
 exact⟨b,o,hA,Nat.lt_of_lt_of_le hlt hb.size,fun i hi=>(hb.cell (p:=⟨b,_,none⟩) hlt).trans (hc i hi)⟩
theorem BndC.below{w w':World}{b o:Nat}{x:Lfc.Bnd}(h:BndC w b o x)(hb:Below w.heap.size w w')(hlt:b<w.heap.size):BndC w' b o x:=by
 obtain⟨v0,v1,v2,v3,c0,hn,c1,c2,c3,c4,ht⟩:=h
 exact⟨v0,v1,v2,v3,(hb.cell (p:=⟨b,_,none⟩) hlt).trans c0,hn,(hb.cell (p:=⟨b,_,none⟩) hlt).trans c1,(hb.cell (p:=⟨b,_,none⟩) hlt).trans c2,(hb.cell (p:=⟨b,_,none⟩) hlt).trans c3,(hb.cell (p:=⟨b,_,none⟩) hlt).trans c4,TreeC.below hb _ _ _ _ _ ht⟩
theorem BndsAt.below{w w':World}{A:Option Addr}{l:List Lfc.Bnd}(h:BndsAt w A l)(hb:Below w.heap.size w w'):BndsAt w' A l:=fun hne=>by
 obtain⟨b,o,hA,hlt,hc⟩:=h hne
 exact⟨b,o,hA,Nat.lt_of_lt_of_le hlt hb.size,fun i hi=>(hc i hi).below hb hlt⟩
theorem FOrdC.below{w w':World}{b o:Nat}{x:List UInt8 × Lfc.Ord}(h:FOrdC w b o x)(hb:Below w.heap.size w w')(hlt:b<w.heap.size):FOrdC w' b o x:=by
 obtain⟨v0,v1,v2,c0,hn,c1,c2,c3,ho⟩:=h
 exact⟨v0,v1,v2,(hb.cell (p:=⟨b,_,none⟩) hlt).trans c0,hn,(hb.cell (p:=⟨b,_,none⟩) hlt).trans c1,(hb.cell (p:=⟨b,_,none⟩) hlt).trans c2,(hb.cell (p:=⟨b,_,none⟩) hlt).trans c3,OrdC.below hb _ _ _ _ ho⟩
theorem FOrdsAt.below{w w':World}{A:Option Addr}{l:List (List UInt8 × Lfc.Ord)}(h:FOrdsAt w A l)(hb:Below w.heap.size w w'):FOrdsAt w' A l:=fun hne=>by
 obtain⟨b,o,hA,hlt,hc⟩:=h hne
 exact⟨b,o,hA,Nat.lt_of_lt_of_le hlt hb.size,fun i hi=>(hc i hi).below hb hlt⟩
theorem ItV.below{w w':World}{x:Lfc.Itm}{s:IS}(h:ItV w x s)(hb:Below w.heap.size w w'):ItV w' x s :=
 ⟨h.name,h.opn,⟨h.ty.1.below hb,h.ty.2⟩,⟨h.va.1.below hb,h.va.2⟩,⟨h.so.1.below hb,h.so.2⟩,⟨h.pa.1.below hb,h.pa.2⟩,⟨h.bl.1.below hb,h.bl.2⟩,⟨h.fa.1.below hb,h.fa.2⟩,⟨h.si.1.below hb,h.si.2⟩,⟨h.od.1.below hb,h.od.2⟩,⟨h.le.1.below hb,h.le.2⟩,⟨h.ri.1.below hb,h.ri.2⟩⟩
end Go.Proofs.YthajalgkjonaaaaGreatDoor
namespace Go.Proofs.YthajalgkjonaaaaGreatDoor
open Go.RowKit
set_option maxRecDepth 100000 in
set_option maxHeartbeats 1000000 in
theorem sNames_any(l:List (List UInt8))(A B:Option Addr)(c c':Nat)(w:World)(hl:l.length≤1000000000)(hA:StrsAt w A l)(hB:StrsAt w B l) :
  Calls Tryz.prog 59 #[.slice A l.length c,.slice B l.length c'] w fun e w'=>e=.returned (.bool true)∧Below w.heap.size w w':=by
 have HA:=Lib.hid hA
 have HB:=Lib.hid hB
 clear hA hB
 have b0:Below w.heap.size w w:=Below.refl _ _
 go_enter Tryz.func59,Tryz.ntmps59
 go_wp2_with fail
 go_loopw [5] (fun i wr=>∃k:Nat,k≤l.length∧i=.int .i64 k∧Below w.heap.size w wr) (fun i _=>l.length-(intOf i).toNat)
 case atStart=>exact⟨0,by omega,rfl,b0⟩
 case round =>
  obtain⟨k,hk,rfl,hbw⟩:=hrel
  by_cases hlt:k<l.length
  ·obtain⟨b,o,rfl,hb,hcs⟩:=HA.out (by intro e;rw[e] at hlt;simp at hlt)
   obtain⟨b',o',rfl,hb',hcs'⟩:=HB.out (by intro e;rw[e] at hlt;simp at hlt)
   have h1:=(hbw.cell (p:=⟨b,o+k,none⟩) hb).trans (hcs k hlt)
   have h2:=(hbw.cell (p:=⟨b',o'+k,none⟩) hb').trans (hcs' k hlt)
   generalize l[k]=x at *
   clear hcs hcs'
   have e1:(0:Int)≤(k:Int):=Int.natCast_nonneg _
   have e2:(k:Int)<(l.length:Int):=by omega
   go_wp2_with fail
   refine wp_region_still_tail 8 (by kernel_rfl) (by kernel_rfl) ?_
   simp only[List.take_succ_cons,List.take_zero,List.drop_succ_cons,List.drop_zero]
   change wpStill Tryz.prog _ wr.drew _ _ _
   repeat still_step
   try refine wpStill_nil ?_
   change wpList _ _ _ _ _ wr.drew
   go_wp2_with fail
   go_roundw
   case rel=>exact⟨k+1,by omega,by go_num,hbw.drew⟩
   case measure=>simp[intOf];omega
  ·go_wp2_with fail
   go_ret
   exact⟨rfl,hbw⟩
set_option maxRecDepth 100000 in
set_option maxHeartbeats 2000000 in
theorem sOrder_upto(m:Nat)(hmm:m≤1000000):∀(t:Lfc.Ord)(v v':Value)(w:World),t.size≤m→OrdV w t v→OrdV w t v' →
  Calls Tryz.prog 60 #[v,v'] w fun e w'=>e=.returned (.bool true)∧Below w.heap.size w w':=by
 induction m with
 |zero=>intro t v v' w h _ _;have:=t.size_pos;omega
 | succ m ih0 =>
  intro t v v' w hsz hv hv'
  have ih:=ih0 (by omega)
  clear ih0
  obtain⟨kd,ar,ts⟩:=t
  obtain⟨A,c,rfl,hc,hA⟩:=hv.open_
  obtain⟨A',c',rfl,hc',hA'⟩:=hv'.open_
  simp only[Lfc.Ord.size] at hsz
  have hlen:=Lfc.Ord.sizes_len ts
  obtain⟨wa,hwa⟩:∃wa,w.alloc (.cells #[.int .i64 kd,.int .i64 ar,.slice A ts.length c] 40)=wa:=⟨_,rfl⟩
  obtain⟨wb,hwb⟩:∃wb,wa.alloc (.cells #[.int .i64 kd,.int .i64 ar,.slice A' ts.length c'] 40)=wb:=⟨_,rfl⟩
  have ba:Below w.heap.size w wa:=by rw[←hwa];exact(Below.refl _ _).alloc (Nat.le_refl _) _
  have bab:Below wa.heap.size wa wb:=by rw[←hwb];exact(Below.refl _ _).alloc (Nat.le_refl _) _
  have qa:wa.heap[w.heap.size]?=some (.cells #[.int .i64 kd,.int .i64 ar,.slice A ts.length c] 40 (0,0)):=by rw[←hwa];exact heap_alloc_new _ _
  have qb:wb.heap[wa.heap.size]?=some (.cells #[.int .i64 kd,.int .i64 ar,.slice A' ts.length c'] 40 (0,0)):=by rw[←hwb];exact heap_alloc_new _ _
  have sa:=lt_of_block qa
  have sb:=lt_of_block qb
  have qab:=(bab.block _ sa).trans qa
  have bb:Below w.heap.size w wb:=ba.trans (bab.mono (by omega))
  have HA:=Lib.hid (hA.below bb)
  have HA':=Lib.hid (hA'.below bb)
  have QA:=Lib.hid qab
  have QB:=Lib.hid qb
  have HB:=Lib.hid bb
  have IH:=Lib.hid ih
  obtain⟨y0,y1,y2⟩:=cells3o qab
  obtain⟨z0,z1,z2⟩:=cells3o qb
  clear ih hv hv' hA hA' ba bab qa qb qab bb
  go_enter Tryz.func60,Tryz.ntmps60
  go_wp2_with fail
  go_loopw [5] (fun i wr=>∃k:Nat,k≤ts.length∧i=.int .i64 k∧Below wb.heap.size wb wr) (fun i _=>ts.length-(intOf i).toNat)
  case atStart=>exact⟨0,by omega,rfl,by first | exact Below.refl _ _ | (rw[hwa,hwb];exact Below.refl _ _)⟩
  case round =>
   clear hwa hwb y0 y1 y2 z0 z1 z2
   obtain⟨k,hk,rfl,hbw⟩:=hrel
   obtain⟨y0,y1,y2⟩:=cells3o ((hbw.block _ (by omega)).trans QA.out)
   obtain⟨z0,z1,z2⟩:=cells3o ((hbw.block _ sb).trans QB.out)
   by_cases hlt:k<ts.length
   ·obtain⟨b,o,k1,n1,xs,B,c1,rfl,hb,ht,d0,d1,d2,hcu,hB,hT⟩:=(HA.out.below hbw).at_ hlt
    obtain⟨b',o',k2,n2,ys,B',c2,rfl,hb',ht',e0,e1,e2,hcu',hB',hT'⟩:=(HA'.out.below hbw).at_ hlt
    have hmem:=Lfc.Ord.sizes_mem ts ts[k] (List.getElem_mem _)
    have hi0:(0:Int)≤(k:Int):=Int.natCast_nonneg _
    have hi1:(k:Int)<(ts.length:Int):=by omega
    clear hB hB' ht ht'
    have bd:Below wr.heap.size wr wr.drew:=(Below.refl _ _).drew
    have hT2:=hT.below bd
    have hT2':=hT'.below bd
    have CALL:=Lib.hid (IH.out ts[k] _ _ wr.drew (by omega) hT2 hT2')
    clear hT hT' hT2 hT2'
    go_wp2_with fail
    refine wp_region_still_tail 10 (by kernel_rfl) (by kernel_rfl) ?_
    simp only[List.take_succ_cons,List.take_zero,List.drop_succ_cons,List.drop_zero]
    change wpStill Tryz.prog _ wr.drew _ _ _
    repeat still_step
    try refine wpStill_nil ?_
    change wpList _ _ _ _ _ wr.drew
    have HD:Hid (Below wb.heap.size wb wr.drew):=Lib.hid hbw.drew
    go_wp2_with fail
    refine CALL.out.mono ?_
    rintro e w1⟨rfl,hb1⟩
    go_wp2_with fail
    go_roundw
    case rel=>exact⟨k+1,by omega,by go_num,HD.out.trans (hb1.mono HD.out.size)⟩
    case measure=>simp[intOf];omega
   ·go_wp2_with fail
    go_ret
    exact⟨rfl,HB.out.trans (hbw.mono HB.out.size)⟩
end Go.Proofs.YthajalgkjonaaaaGreatDoor
namespace Go.Proofs.YthajalgkjonaaaaGreatDoor
open Go.RowKit
theorem same_of{t u:Lfc.Raw}(h:t.strip=u.strip):Lfc.Raw.same false t u=true:=(Lfc.same_strip t u).2 h
set_option maxRecDepth 100000 in
set_option maxHeartbeats 2000000 in
theorem sRaws_any(ts us:List Lfc.Raw)(n:Nat)(h1:ts.length=n)(h2:us.length=n)(hs:ts.map Lfc.Raw.strip=us.map Lfc.Raw.strip)(A A':Option Addr)(c c':Nat)(w:World)(hl:n≤1000000000)(hz:∀t∈ts,t.size≤1000000000)(hA:TreesAt w A ts)(hA':TreesAt w A' us) :
  Calls Tryz.prog 57 #[.slice A n c,.slice A' n c',.bool false] w fun e w'=>e=.returned (.bool true)∧Below w.heap.size w w':=by
 have HA:=Lib.hid hA
 have HA':=Lib.hid hA'
 have H1:=Lib.hid h1
 have H2:=Lib.hid h2
 have HS:=Lib.hid hs
 have HZ:=Lib.hid hz
 clear hA hA' h1 h2 hs hz
 have b0:Below w.heap.size w w:=Below.refl _ _
 go_enter Tryz.func57,Tryz.ntmps57
 go_wp2_with fail
 go_loopw [7] (fun i wr=>∃k:Nat,k≤n∧i=.int .i64 k∧Below w.heap.size w wr) (fun i _=>n-(intOf i).toNat)
 case atStart=>exact⟨0,by omega,rfl,b0⟩
 case round =>
  obtain⟨k,hk,rfl,hbw⟩:=hrel
  by_cases hlt:k<n
  ·have hi0:(0:Int)≤(k:Int):=Int.natCast_nonneg _
   have hi1:(k:Int)<(n:Int):=by omega
   have hlt1:k<ts.length:=by have:=H1.out;omega
   have hlt2:k<us.length:=by have:=H2.out;omega
   have hst:ts[k].strip=us[k].strip:=by
    have:=congrArg (fun l=>l[k]?) HS.out
    simpa[hlt1,hlt2] using this
   obtain⟨b,o,k1,n1,p1,xs,B,c1,rfl,hb,ht,d0,d1,d2,d3,hcu,hB,hT⟩:=(HA.out.below hbw).at_ hlt1
   obtain⟨b',o',k2,n2,p2,ys,B',c2,rfl,hb',ht',e0,e1,e2,e3,hcu',hB',hT'⟩:=(HA'.out.below hbw).at_ hlt2
   have bd:Below wr.heap.size wr wr.drew:=(Below.refl _ _).drew
   have CALL:=rSame_any false ts[k] us[k] _ _ wr.drew (HZ.out _ (List.getElem_mem _)) (hT.below bd) (hT'.below bd)
   rw[same_of hst] at CALL
   have CALL:=Lib.hid CALL
   clear hB hB' ht ht' hT hT' hst hlt1 hlt2
   go_wp2_with fail
   refine wp_region_still_tail 9 (by kernel_rfl) (by kernel_rfl) ?_
   simp only[List.take_succ_cons,List.take_zero,List.drop_succ_cons,List.drop_zero]
   change wpStill Tryz.prog _ wr.drew _ _ _
   repeat still_step
   try refine wpStill_nil ?_
   change wpList _ _ _ _ _ wr.drew
   have hws:=hbw.size
   have HD:Hid (Below w.heap.size w wr.drew):=Lib.hid hbw.drew
   go_wp2_with fail
   refine CALL.out.mono ?_
   rintro e w1⟨rfl,hb1⟩
   go_wp2_with fail
   go_roundw
   case rel=>exact⟨k+1,by omega,by go_num,HD.out.trans (hb1.mono HD.out.size)⟩
   case measure=>simp[intOf];omega
  ·go_wp2_with fail
   go_ret
   exact⟨rfl,hbw⟩
set_option maxRecDepth 100000 in
set_option maxHeartbeats 2000000 in
theorem sBinders_any(ts us:List Lfc.Bnd)(n:Nat)(h1:ts.length=n)(h2:us.length=n)(hs:Lfc.BndsL ts us)(A A':Option Addr)(c c':Nat)(w:World)(hl:n≤1000000000)(hz:∀t∈ts,t.2.size≤1000000000)(hA:BndsAt w A ts)(hA':BndsAt w A' us) :
  Calls Tryz.prog 58 #[.slice A n c,.slice A' n c',.bool false] w fun e w'=>e=.returned (.bool true)∧Below w.heap.size w w':=by
 have HA:=Lib.hid hA
 have HA':=Lib.hid hA'
 have H1:=Lib.hid h1
 have H2:=Lib.hid h2
 have HS:=Lib.hid hs
 have HZ:=Lib.hid hz
 clear hA hA' h1 h2 hs hz
 have b0:Below w.heap.size w w:=Below.refl _ _
 go_enter Tryz.func58,Tryz.ntmps58
 go_wp2_with fail
 go_loopw [7] (fun i wr=>∃k:Nat,k≤n∧i=.int .i64 k∧Below w.heap.size w wr) (fun i _=>n-(intOf i).toNat)
 case atStart=>exact⟨0,by omega,rfl,b0⟩
 case round =>
  obtain⟨k,hk,rfl,hbw⟩:=hrel
  by_cases hlt:k<n
  ·have hi0:(0:Int)≤(k:Int):=Int.natCast_nonneg _
   have hi1:(k:Int)<(n:Int):=by omega
   have hlt1:k<ts.length:=by have:=H1.out;omega
   have hlt2:k<us.length:=by have:=H2.out;omega
   have hst:ts[k].1=us[k].1∧ts[k].2.strip=us[k].2.strip:=by
    have:=congrArg (fun l=>l[k]?) HS.out
    simp[hlt1,hlt2,Lfc.bndS] at this
    exact this
   obtain⟨b,o,rfl,hb,hcs⟩:=HA.out (by intro e;rw[e] at hlt1;simp at hlt1)
   obtain⟨b',o',rfl,hb',hcs'⟩:=HA'.out (by intro e;rw[e] at hlt2;simp at hlt2)
   have hbr:b<wr.heap.size:=Nat.lt_of_lt_of_le hb hbw.size
   have hbr':b'<wr.heap.size:=Nat.lt_of_lt_of_le hb' hbw.size
   obtain⟨v0,v1,v2,v3,d0,hn0,d1,d2,d3,d4,hT⟩:=(hcs k hlt1).below hbw hb
   obtain⟨u0,u1,u2,u3,e0,hn0',e1,e2,e3,e4,hT'⟩:=(hcs' k hlt2).below hbw hb'
   have bd:Below wr.heap.size wr wr.drew:=(Below.refl _ _).drew
   have CALL:=rSame_any false ts[k].2 us[k].2 _ _ wr.drew (HZ.out _ (List.getElem_mem _)) (TreeV.below ⟨_,_,_,_,rfl,hT⟩ bd) (TreeV.below ⟨_,_,_,_,rfl,hT'⟩ bd)
   rw[same_of hst.2] at CALL
   have CALL:=Lib.hid CALL
   rw[←hst.1] at e0
   generalize ts[k].1=nm at *
   clear hT hT' hst hlt1 hlt2 hcs hcs' hn0 hn0'
   go_wp2_with fail
   refine wp_region_still_tail 23 (by kernel_rfl) (by kernel_rfl) ?_
   simp only[List.take_succ_cons,List.take_zero,List.drop_succ_cons,List.drop_zero]
   change wpStill Tryz.prog _ wr.drew _ _ _
   repeat still_step
   try refine wpStill_nil ?_
   change wpList _ _ _ _ _ wr.drew
   have hws:=hbw.size
   have HD:Hid (Below w.heap.size w wr.drew):=Lib.hid hbw.drew
   go_wp2_with fail
   refine CALL.out.mono ?_
   rintro e w1⟨rfl,hb1⟩
   go_wp2_with fail
   go_roundw
   case rel=>exact⟨k+1,by omega,by go_num,HD.out.trans (hb1.mono HD.out.size)⟩
   case measure=>simp[intOf];omega
  ·go_wp2_with fail
   go_ret
   exact⟨rfl,hbw⟩
set_option maxRecDepth 100000 in
set_option maxHeartbeats 2000000 in
theorem sOps_any(l:List Lfc.Op)(n:Nat)(h1:l.length=n)(A A':Option Addr)(c c':Nat)(w:World)(hl:n≤1000000000)(hA:OpsAt w A l)(hA':OpsAt w A' l) :
  Calls Tryz.prog 20 #[.slice A n c,.slice A' n c'] w fun e w'=>e=.returned (.bool true)∧Below w.heap.size w w':=by
 have HA:=Lib.hid hA
 have HA':=Lib.hid hA'
 have H1:=Lib.hid h1
 clear hA hA' h1
 have b0:Below w.heap.size w w:=Below.refl _ _
 go_enter Tryz.func20,Tryz.ntmps20
 go_wp2_with fail
 go_loopw [5] (fun i wr=>∃k:Nat,k≤n∧i=.int .i64 k∧Below w.heap.size w wr) (fun i _=>n-(intOf i).toNat)
 case atStart=>exact⟨0,by omega,rfl,b0⟩
 case round =>
  obtain⟨k,hk,rfl,hbw⟩:=hrel
  by_cases hlt:k<n
  ·have hi0:(0:Int)≤(k:Int):=Int.natCast_nonneg _
   have hi1:(k:Int)<(n:Int):=by omega
   have hlt1:k<l.length:=by have:=H1.out;omega
   obtain⟨b,o,rfl,hb,hcs⟩:=HA.out.2 (by intro e;rw[e] at hlt1;simp at hlt1)
   obtain⟨b',o',rfl,hb',hcs'⟩:=HA'.out.2 (by intro e;rw[e] at hlt1;simp at hlt1)
   obtain⟨d0,d1,d2⟩:=hcs k hlt1
   obtain⟨e0,e1,e2⟩:=hcs' k hlt1
   replace d0:=(hbw.cell (p:=⟨b,_,none⟩) hb).trans d0
   replace d1:=(hbw.cell (p:=⟨b,_,none⟩) hb).trans d1
   replace d2:=(hbw.cell (p:=⟨b,_,none⟩) hb).trans d2
   replace e0:=(hbw.cell (p:=⟨b',_,none⟩) hb').trans e0
   replace e1:=(hbw.cell (p:=⟨b',_,none⟩) hb').trans e1
   replace e2:=(hbw.cell (p:=⟨b',_,none⟩) hb').trans e2
   generalize l[k]=qq at *
   obtain⟨on,ox,op⟩:=qq
   have hws:=hbw.size
   have HD:Hid (Below w.heap.size w wr.drew):=Lib.hid hbw.drew
   clear hcs hcs' hlt1
   go_wp2_with fail
   refine wp_region_still_tail 8 (by kernel_rfl) (by kernel_rfl) ?_
   simp only[List.take_succ_cons,List.take_zero,List.drop_succ_cons,List.drop_zero]
   change wpStill Tryz.prog _ wr.drew _ _ _
   repeat still_step
   try refine wpStill_nil ?_
   change wpList _ _ _ _ _ wr.drew
   go_wp2_with fail
   go_roundw
   case rel=>exact⟨k+1,by omega,by go_num,HD.out⟩
   case measure=>simp[intOf];omega
  ·go_wp2_with fail
   go_ret
   exact⟨rfl,hbw⟩
end Go.Proofs.YthajalgkjonaaaaGreatDoor
