/- Parts of the proof that no input makes the law false: PaOpd2,PaRec,PaWord,PaRun. -/
import Derived.Test.YthajalgkjonaaaaGreatDoorShelf
import Derived.Defers
import Derived.Recover
import Derived.Test.YthajalgkjonaaaaGreatDoorQxAA
import Derived.Test.YthajalgkjonaaaaGreatDoorQxAC
import Derived.Test.YthajalgkjonaaaaGreatDoorQxAP
set_option linter.unusedVariables false
set_option linter.unusedSimpArgs false
namespace Go.Proofs.YthajalgkjonaaaaGreatDoor
open Go.RowKit
structure OpS(w:World)(P:Nat)(G:Hd)(p:Lfc.PE)(k:Nat)(t:Lfc.Tok)(T:Nat)(W:World):Prop where
 pw:PW W P G p k
 oth:Oth P w W
 box:W.heap[w.heap.size]?=some (.cells #[.pointer (some ⟨P,0,none⟩)] 93 (0,0))
 res:W.heap[w.heap.size+1]?=some (.cells #[.int .i64 0,S [],.int .i64 0,.slice none 0 0,.bool false] 129 (0,0))
 tok:W.heap[T]?=some (.cells #[.int .i64 t.kind,S t.text,.int .i64 (t.pos:Int)] 65 (0,0))
 lt:w.heap.size+1<T
theorem OpS.fin{w W W':World}{P k k':Nat}{G:Hd}{p:Lfc.PE}{t:Lfc.Tok}{T:Nat}(h:OpS w P G p k t T W)(h0:PW w P G p k)(h':PW W' P G p k')(o:Oth P W W')(v0 v1 v2 v3 v4:Value) :
  ∃s1 s2 s3 s4 s5,W'.setCell ⟨w.heap.size+1,0,none⟩ v0=s1∧s1.setCell ⟨w.heap.size+1,1,none⟩ v1=s2∧s2.setCell ⟨w.heap.size+1,2,none⟩ v2=s3∧s3.setCell ⟨w.heap.size+1,3,none⟩ v3=s4∧s4.setCell ⟨w.heap.size+1,4,none⟩ v4=s5 ∧
  ((W'.cell? ⟨w.heap.size+1,0,none⟩=some (.int .i64 0)∧s1.cell? ⟨w.heap.size+1,1,none⟩=some (S [])∧s2.cell? ⟨w.heap.size+1,2,none⟩=some (.int .i64 0)∧s3.cell? ⟨w.heap.size+1,3,none⟩=some (.slice none 0 0)∧s4.cell? ⟨w.heap.size+1,4,none⟩=some (.bool false)) ∧
  (W'.frozen? ⟨w.heap.size+1,0,none⟩=false∧s1.frozen? ⟨w.heap.size+1,1,none⟩=false∧s2.frozen? ⟨w.heap.size+1,2,none⟩=false∧s3.frozen? ⟨w.heap.size+1,3,none⟩=false∧s4.frozen? ⟨w.heap.size+1,4,none⟩=false)) ∧
  Hid (s5.heap[w.heap.size+1]?=some (.cells #[v0,v1,v2,v3,v4] 129 (0,0)))∧Hid (PW s5 P G p k')∧Hid (Oth P w s5)∧Hid (∀x u0 u1 u2 u3,TreeP (fun b=>W.heap.size≤b) W' x u0 u1 u2 u3→TreeP (fun b=>w.heap.size≤b) s5 x u0 u1 u2 u3):=by
 have hP:=h0.lt
 have hR:=lt_of_block h.res
 have hs:=o.size
 obtain⟨s1,s2,s3,s4,s5,g1,g2,g3,g4,g5,y,f,hq,ho⟩:=put5p (o.heap h.res (by omega)) v0 v1 v2 v3 v4
 have o5:Oth P w s5:=(h.oth.trans o).over ho (by omega)
 refine⟨s1,s2,s3,s4,s5,g1,g2,g3,g4,g5,⟨y,f⟩,Lib.hid hq,Lib.hid (h0.to o5 ((ho.block P h'.lt (fun e=>by have:=Option.some.inj e;omega)).trans h'.1)),Lib.hid o5,Lib.hid fun x u0 u1 u2 u3 ht=>?_⟩
 exact TreeP.keep (fun b hb hlt=>ho.block b hlt (fun e=>by have:=Option.some.inj e;omega)) ho.size (fun b _ hb=>by omega) _ _ _ _ _ ht
theorem leafQ{q:Nat→Prop}{w:World}(k:Int)(n:List UInt8)(p:Int)(hn:n.length≤1000000):TreeP q w (.node k n p []) (.int .i64 k) (S n) (.int .i64 p) (.slice none 0 0):=by
 rw[TreeP];exact⟨rfl,rfl,hn,rfl,none,0,rfl,Nat.le_refl _,fun h=>absurd rfl h⟩
theorem opd_leaf{p:Lfc.PE}{g:Nat→Lfc.PR (Option Lfc.Opd)}{k:Nat}{kd:Int}{n:List UInt8}{pos:Nat}(h:p.opdG g k=p.leaf k kd n)(hp:(p.pk k).pos=pos):p.opdG g k=.ok (some ⟨.node kd n (pos:Int) [],false⟩) (k+1):=by
 rw[h,←hp];rfl
set_option maxRecDepth 100000 in
set_option maxHeartbeats 8000000 in
theorem opd_of_expr(p:Lfc.PE)(ok:POk p)(g:Nat→Lfc.PR (Option Lfc.Opd))(hB:Lfc.OpdB p g)(hE:ExprC p g):OpdC' p (p.opdG g):=by
 intro P k G w hk hne h
 have hP:=h.lt
 have hmf:∀(fn:Fn)(first cap:Array Value)(w:World),(Instr.makeFunc fn first cap).run Tryz.prog w=.ok (.func fn first cap) w:=fun _ _ _ _=>rfl
 obtain⟨wa,hwa⟩:∃wa,(w.alloc (.cells #[.pointer (some ⟨P,0,none⟩)] 93)).alloc (.cells #[.int .i64 0,S [],.int .i64 0,.slice none 0 0,.bool false] 129)=wa:=⟨_,rfl⟩
 have ba:Below w.heap.size w wa:=by rw[←hwa];exact((Below.refl _ _).alloc (Nat.le_refl _) _).alloc (by simp) _
 have qb:wa.heap[w.heap.size]?=some (.cells #[.pointer (some ⟨P,0,none⟩)] 93 (0,0)):=by rw[←hwa];exact heap_alloc_old _ _ _ _ (heap_alloc_new _ _)
 have qr:wa.heap[w.heap.size+1]?=some (.cells #[.int .i64 0,S [],.int .i64 0,.slice none 0 0,.bool false] 129 (0,0)):=by
  rw[←hwa]
  have:=heap_alloc_new (w.alloc (.cells #[.pointer (some ⟨P,0,none⟩)] 93)) (.cells #[.int .i64 0,S [],.int .i64 0,.slice none 0 0,.bool false] 129)
  simpa using this
 have hsa:=eq2 (show wa.heap.size=w.heap.size+2 by rw[←hwa];simp)
 have CP:=Lib.hid (peek_any wa (h.below ba) hk ok)
 have b0:wa.cell? ⟨w.heap.size,0,none⟩=some (.pointer (some ⟨P,0,none⟩)):=Lib.cell_of_heap qb 0
 have HW:=Lib.hid h
 have HE:=Lib.hid hE
 have HB:=Lib.hid hB
 have HK:=Lib.hid ok
 have HNE:=Lib.hid hne
 have hlt0:∀t,p.pk k=t→t.kind≠0→k<p.toks.length:=fun t e h=>p.pk_lt (by rw[e];exact h)
 have htx:∀t,p.pk k=t→t.kind≠0→t.text.length≤65536∧(t.kind=1→t.text≠[]):=fun t e h=>by
  have h1:=hlt0 t e h
  have:=ok.tok _ (List.mem_of_getElem? (PE.pk_of h1))
  rw[e] at this
  exact this
 have BA:=Lib.hid ba
 have QB:=Lib.hid qb
 have QR:=Lib.hid qr
 obtain⟨⟨tk,tx,tp⟩,hpk⟩:∃t,p.pk k=t:=⟨_,rfl⟩
 have hlt0:=hlt0 _ hpk
 have htx:=htx _ hpk
 rw[hpk] at CP
 simp only at CP hlt0 htx
 have HPK:=Lib.hid hpk
 have HK1:(p.pk k).kind=tk:=by rw[hpk]
 have HK2:(p.pk k).text=tx:=by rw[hpk]
 have HK3:(p.pk k).pos=tp:=by rw[hpk]
 have HKK:=Lib.hid (And.intro HK1 (And.intro HK2 HK3))
 clear h hE hB ok ba qb qr hne hpk HK1 HK2 HK3
 go_enter Tryz.func64,Tryz.ntmps64
 go_upto_region 1 with fail
 clear hwa
 go_upto_region 2 with(go_at_call 63;refine CP.out.mono ?_;rintro e w1⟨rfl,b1⟩)
 have hs1:=b1.size
 obtain⟨w2,hw2⟩:∃w2,w1.alloc (.cells #[.int .i64 tk,S tx,.int .i64 (tp:Int)] 65)=w2:=⟨_,rfl⟩
 have b2:Below w1.heap.size w1 w2:=by rw[←hw2];exact(Below.refl _ _).alloc (Nat.le_refl _) _
 have q2:w2.heap[w1.heap.size]?=some (.cells #[.int .i64 tk,S tx,.int .i64 (tp:Int)] 65 (0,0)):=by rw[←hw2];exact heap_alloc_new _ _
 rw[hw2]
 have hs2:=eq2 (show w2.heap.size=w1.heap.size+1 by rw[←hw2];simp)
 have bw2:Below w.heap.size w w2:=BA.out.trans ((b1.mono BA.out.size).trans (b2.mono (by omega)))
 obtain⟨T,hT⟩:∃T,w1.heap.size=T:=⟨_,rfl⟩
 rw[hT] at q2 hs2
 have S2:Hid (OpS w P G p k ⟨tk,tx,tp⟩ T w2):=Lib.hid ⟨HW.out.below bw2,Oth.of_below bw2,(b2.block _ (by omega)).trans ((b1.block _ (by omega)).trans QB.out),(b2.block _ (by omega)).trans ((b1.block _ (by omega)).trans QR.out),q2,by omega⟩
 rw[hT]
 have hltT:w.heap.size+1<T:=S2.out.lt
 have r0:w2.cell? ⟨w.heap.size,0,none⟩=some (.pointer (some ⟨P,0,none⟩)):=Lib.cell_of_heap S2.out.box 0
 have t0:w2.cell? ⟨T,0,none⟩=some (.int .i64 tk):=Lib.cell_of_heap S2.out.tok 0
 have t1:w2.cell? ⟨T,1,none⟩=some (S tx):=Lib.cell_of_heap S2.out.tok 1
 have t2:w2.cell? ⟨T,2,none⟩=some (.int .i64 (tp:Int)):=Lib.cell_of_heap S2.out.tok 2
 have hR2:=lt_of_block S2.out.res
 have hT2:=lt_of_block S2.out.tok
 have CL:Hid (k<p.toks.length→∀(kd:Int)(n:List UInt8),Calls Tryz.prog 115 #[.int .i64 kd,S n,.pointer (some ⟨w.heap.size,0,none⟩),.pointer (some ⟨T,0,none⟩)] w2 fun e w'=>e=.returned (.tuple #[.agg #[.int .i64 kd,S n,.int .i64 (tp:Int),.slice none 0 0,.bool false],.bool true])∧PW w' P G p (k+1)∧Oth P w2 w'):=Lib.hid fun hk2 kd n=>leaf_any kd n w2 S2.out.pw hk2 HK.out r0 t2 (by omega) hT2 (by omega)
 clear hw2 b2 q2 bw2 hT CP b0 t2
 by_cases hk1:tk=1
 ·subst hk1
  have hkl:=hlt0 (by decide)
  obtain⟨htl,htn⟩:=htx (by decide)
  have htn:=htn rfl
  have HNM:Hid (∀n:List UInt8,n.length≤65536→∀W,Calls Tryz.prog 80 #[S n] W fun e w'=>e=.returned (.bool (Lfc.isName n))∧W=w'):=Lib.hid fun n hn W=>isName_any n W (by omega)
  cases hnm:Lfc.isName tx
  ·have HN1:=Lib.hid (HNM.out tx htl)
   rw[hnm] at HN1
   obtain⟨c,r,rfl⟩:=List.exists_cons_of_ne_nil htn
   have hrl:r.length≤65536:=by simp at htl;omega
   by_cases hc:c.toNat=64
   ·have hc2:((c.toNat:Int) == 64)=true:=by simp;omega
    have HN2:=Lib.hid (HNM.out r hrl)
    cases hnr:Lfc.isName r
    ·rw[hnr] at HN2
     have HF:Hid (p.opdG g k=.ok none k):=Lib.hid (by unfold Lfc.PE.opdG;rw[if_pos HKK.out.1,HKK.out.2.1,if_neg (by simp[hnm]),if_neg (by simp[hnr])])
     obtain⟨s1,s2,s3,s4,s5,g1,g2,g3,g4,g5,⟨⟨y0,y1,y2,y3,y4⟩,⟨f0,f1,f2,f3,f4⟩⟩,HQ,HP5,HO5,HT5⟩:=S2.out.fin HW.out S2.out.pw (Oth.refl _ _) (.int .i64 0) (S []) (.int .i64 0) (.slice none 0 0) (.bool false)
     go_wp2_with (first | fail | (go_at_call 80;with_reducible refine(HN1.out _).mono ?_;rintro e w9⟨rfl,rfl⟩) | (go_at_call 80;refine(HN2.out _).mono ?_;rintro e w9⟨rfl,rfl⟩))
     refine bodyPost_ret (results_opdP2 rfl _ _ _ _ _ _ _ _ rfl HQ.out) rfl ?_
     rw[HF.out]
     exact⟨⟨_,rfl,rfl⟩,HP5.out,HO5.out⟩
    ·rw[hnr] at HN2
     have HF:Hid (p.opdG g k=.ok (some ⟨.node 2 r (tp:Int) [],false⟩) (k+1)):=Lib.hid (opd_leaf (by unfold Lfc.PE.opdG;rw[if_pos HKK.out.1,HKK.out.2.1,if_neg (by simp[hnm]),if_pos (by simp[hc,hnr])];rfl) HKK.out.2.2)
     have CF:=Lib.hid (CL.out hkl 2 r)
     go_wp2_with (first | (go_at_call 115;refine CF.out.mono ?_;rintro e w3⟨rfl,h3,o3⟩;obtain⟨s1,s2,s3,s4,s5,g1,g2,g3,g4,g5,⟨⟨y0,y1,y2,y3,y4⟩,⟨f0,f1,f2,f3,f4⟩⟩,HQ,HP5,HO5,HT5⟩:=S2.out.fin HW.out h3 o3 (.int .i64 2) (S r) (.int .i64 (tp:Int)) (.slice none 0 0) (.bool false)) | (go_at_call 80;with_reducible refine(HN1.out _).mono ?_;rintro e w9⟨rfl,rfl⟩) | (go_at_call 80;refine(HN2.out _).mono ?_;rintro e w9⟨rfl,rfl⟩))
     refine bodyPost_ret (results_opdP2 rfl _ _ _ _ _ _ _ _ rfl HQ.out) rfl ?_
     rw[HF.out]
     exact⟨⟨_,rfl,_,_,_,_,_,_,rfl,rfl,leafQ _ _ _ (by omega)⟩,HP5.out,HO5.out⟩
   ·have hc2:((c.toNat:Int) == 64)=false:=by simp;omega
    have HF:Hid (p.opdG g k=.ok none k):=Lib.hid (by unfold Lfc.PE.opdG;rw[if_pos HKK.out.1,HKK.out.2.1,if_neg (by simp[hnm]),if_neg (by simp[hc])])
    obtain⟨s1,s2,s3,s4,s5,g1,g2,g3,g4,g5,⟨⟨y0,y1,y2,y3,y4⟩,⟨f0,f1,f2,f3,f4⟩⟩,HQ,HP5,HO5,HT5⟩:=S2.out.fin HW.out S2.out.pw (Oth.refl _ _) (.int .i64 0) (S []) (.int .i64 0) (.slice none 0 0) (.bool false)
    go_wp2_with (first | fail | (go_at_call 80;refine(HN1.out _).mono ?_;rintro e w9⟨rfl,rfl⟩))
    refine bodyPost_ret (results_opdP2 rfl _ _ _ _ _ _ _ _ rfl HQ.out) rfl ?_
    rw[HF.out]
    exact⟨⟨_,rfl,rfl⟩,HP5.out,HO5.out⟩
  ·have HN1:=Lib.hid (HNM.out tx htl)
   rw[hnm] at HN1
   have HF:Hid (p.opdG g k=.ok (some ⟨.node 1 tx (tp:Int) [],false⟩) (k+1)):=Lib.hid (opd_leaf (by unfold Lfc.PE.opdG;rw[if_pos HKK.out.1,HKK.out.2.1,if_pos hnm]) HKK.out.2.2)
   have CF:=Lib.hid (CL.out hkl 1 tx)
   go_wp2_with (first | (go_at_call 115;refine CF.out.mono ?_;rintro e w3⟨rfl,h3,o3⟩;obtain⟨s1,s2,s3,s4,s5,g1,g2,g3,g4,g5,⟨⟨y0,y1,y2,y3,y4⟩,⟨f0,f1,f2,f3,f4⟩⟩,HQ,HP5,HO5,HT5⟩:=S2.out.fin HW.out h3 o3 (.int .i64 1) (S tx) (.int .i64 (tp:Int)) (.slice none 0 0) (.bool false)) | (go_at_call 80;refine(HN1.out _).mono ?_;rintro e w9⟨rfl,rfl⟩))
   refine bodyPost_ret (results_opdP2 rfl _ _ _ _ _ _ _ _ rfl HQ.out) rfl ?_
   rw[HF.out]
   exact⟨⟨_,rfl,_,_,_,_,_,_,rfl,rfl,leafQ _ _ _ (by omega)⟩,HP5.out,HO5.out⟩
 ·have hk1':(tk == 1)=false:=by simpa using hk1
  by_cases hk2:tk=2
  ·subst hk2
   have hkl:=hlt0 (by decide)
   have HE0:Hid (∀r,(if (p.pk k).text=[95] then p.leaf k 3 [] else if (p.pk k).text=[116,121,112,101] then p.leaf k 4 [] else if (p.pk k).text=[45,62]∨(p.pk k).text=[60,45] then p.leaf k 1 (p.pk k).text else if (p.pk k).text=[40] then(p.parG g k).opt else if (p.pk k).text=[123] then(p.bindG g 7 [125] k).opt else if (p.pk k).text=[91] then(p.bindG g 8 [93] k).opt else .ok none k)=r→p.opdG g k=r):=Lib.hid fun r h=>by
    unfold Lfc.PE.opdG
    rw[if_neg (by rw[HKK.out.1];decide),if_neg (by rw[HKK.out.1];decide)]
    exact h
   clear hk1 hk1' htx
   by_cases e0:tx=[95]
   ·subst e0
    have HF:Hid (p.opdG g k=.ok (some ⟨.node 3 [] (tp:Int) [],false⟩) (k+1)):=Lib.hid (opd_leaf (HE0.out _ (by rw[HKK.out.2.1];rfl)) HKK.out.2.2)
    have CF:=Lib.hid (CL.out hkl 3 [])
    go_wp2_with (first | (go_at_call 115;refine CF.out.mono ?_;rintro e w3⟨rfl,h3,o3⟩;obtain⟨s1,s2,s3,s4,s5,g1,g2,g3,g4,g5,⟨⟨y0,y1,y2,y3,y4⟩,⟨f0,f1,f2,f3,f4⟩⟩,HQ,HP5,HO5,HT5⟩:=S2.out.fin HW.out h3 o3 (.int .i64 3) (S []) (.int .i64 (tp:Int)) (.slice none 0 0) (.bool false)))
    refine bodyPost_ret (results_opdP2 rfl _ _ _ _ _ _ _ _ rfl HQ.out) rfl ?_
    rw[HF.out]
    exact⟨⟨_,rfl,_,_,_,_,_,_,rfl,rfl,leafQ _ _ _ (by simp)⟩,HP5.out,HO5.out⟩
   have n0:(tx == ([95]:List UInt8))=false:=beq_eq_false_iff_ne.2 e0
   by_cases e1:tx=[116,121,112,101]
   ·subst e1
    have HF:Hid (p.opdG g k=.ok (some ⟨.node 4 [] (tp:Int) [],false⟩) (k+1)):=Lib.hid (opd_leaf (HE0.out _ (by rw[HKK.out.2.1];rfl)) HKK.out.2.2)
    have CF:=Lib.hid (CL.out hkl 4 [])
    go_wp2_with (first | (go_at_call 115;refine CF.out.mono ?_;rintro e w3⟨rfl,h3,o3⟩;obtain⟨s1,s2,s3,s4,s5,g1,g2,g3,g4,g5,⟨⟨y0,y1,y2,y3,y4⟩,⟨f0,f1,f2,f3,f4⟩⟩,HQ,HP5,HO5,HT5⟩:=S2.out.fin HW.out h3 o3 (.int .i64 4) (S []) (.int .i64 (tp:Int)) (.slice none 0 0) (.bool false)))
    refine bodyPost_ret (results_opdP2 rfl _ _ _ _ _ _ _ _ rfl HQ.out) rfl ?_
    rw[HF.out]
    exact⟨⟨_,rfl,_,_,_,_,_,_,rfl,rfl,leafQ _ _ _ (by simp)⟩,HP5.out,HO5.out⟩
   have n1:(tx == ([116,121,112,101]:List UInt8))=false:=beq_eq_false_iff_ne.2 e1
   by_cases e2:tx=[45,62]
   ·subst e2
    have HF:Hid (p.opdG g k=.ok (some ⟨.node 1 [45,62] (tp:Int) [],false⟩) (k+1)):=Lib.hid (opd_leaf (HE0.out _ (by rw[HKK.out.2.1];rfl)) HKK.out.2.2)
    have CF:=Lib.hid (CL.out hkl 1 [45,62])
    go_wp2_with (first | (go_at_call 115;refine CF.out.mono ?_;rintro e w3⟨rfl,h3,o3⟩;obtain⟨s1,s2,s3,s4,s5,g1,g2,g3,g4,g5,⟨⟨y0,y1,y2,y3,y4⟩,⟨f0,f1,f2,f3,f4⟩⟩,HQ,HP5,HO5,HT5⟩:=S2.out.fin HW.out h3 o3 (.int .i64 1) (S [45,62]) (.int .i64 (tp:Int)) (.slice none 0 0) (.bool false)))
    refine bodyPost_ret (results_opdP2 rfl _ _ _ _ _ _ _ _ rfl HQ.out) rfl ?_
    rw[HF.out]
    exact⟨⟨_,rfl,_,_,_,_,_,_,rfl,rfl,leafQ _ _ _ (by simp)⟩,HP5.out,HO5.out⟩
   have n2:(tx == ([45,62]:List UInt8))=false:=beq_eq_false_iff_ne.2 e2
   by_cases e3:tx=[60,45]
   ·subst e3
    have HF:Hid (p.opdG g k=.ok (some ⟨.node 1 [60,45] (tp:Int) [],false⟩) (k+1)):=Lib.hid (opd_leaf (HE0.out _ (by rw[HKK.out.2.1];rfl)) HKK.out.2.2)
    have CF:=Lib.hid (CL.out hkl 1 [60,45])
    go_wp2_with (first | (go_at_call 115;refine CF.out.mono ?_;rintro e w3⟨rfl,h3,o3⟩;obtain⟨s1,s2,s3,s4,s5,g1,g2,g3,g4,g5,⟨⟨y0,y1,y2,y3,y4⟩,⟨f0,f1,f2,f3,f4⟩⟩,HQ,HP5,HO5,HT5⟩:=S2.out.fin HW.out h3 o3 (.int .i64 1) (S [60,45]) (.int .i64 (tp:Int)) (.slice none 0 0) (.bool false)))
    refine bodyPost_ret (results_opdP2 rfl _ _ _ _ _ _ _ _ rfl HQ.out) rfl ?_
    rw[HF.out]
    exact⟨⟨_,rfl,_,_,_,_,_,_,rfl,rfl,leafQ _ _ _ (by simp)⟩,HP5.out,HO5.out⟩
   have n3:(tx == ([60,45]:List UInt8))=false:=beq_eq_false_iff_ne.2 e3
   by_cases e4:tx=[40]
   ·subst e4
    have HFO:Hid (p.opdG g k=(p.parG g k).opt):=Lib.hid (HE0.out _ (by rw[HKK.out.2.1];rfl))
    have hne2:p.parG g k≠.out:=fun e=>HNE.out (by rw[HFO.out,e];rfl)
    have hcc:=par_of_expr p HK.out g HB.out HE.out P k G w2 hkl hne2 S2.out.pw
    cases hpr:p.parG g k with
    |out=>exact absurd hpr hne2
    |err cc aa =>
     rw[hpr] at hcc
     have CC:=Lib.hid hcc
     have HF:Hid (p.opdG g k=.err cc aa):=Lib.hid (by rw[HFO.out,hpr];rfl)
     clear hcc hpr
     go_wp2_with (go_at_call 116;refine CC.out.mono ?_;rintro e w3⟨rfl,o3⟩)
     rw[HF.out]
     exact⟨rfl,rfl,S2.out.oth.trans o3⟩
    |ok x k9 =>
     rw[hpr] at hcc
     have CC:=Lib.hid hcc
     have HF:Hid (p.opdG g k=.ok (some x) k9):=Lib.hid (by rw[HFO.out,hpr];rfl)
     clear hcc hpr
     go_wp2_with (go_at_call 116;refine CC.out.mono ?_;rintro e w3⟨⟨v,rfl,⟨kx,nx,qx,ux,Ax,cx,rfl,hnd,hcl,htx⟩⟩,h3,o3⟩;obtain⟨s1,s2,s3,s4,s5,g1,g2,g3,g4,g5,⟨⟨y0,y1,y2,y3,y4⟩,⟨f0,f1,f2,f3,f4⟩⟩,HQ,HP5,HO5,HT5⟩:=S2.out.fin HW.out h3 o3 (.int .i64 kx) (S nx) (.int .i64 qx) (.slice Ax ux.length cx) (.bool true);have HT9:=Lib.hid (HT5.out _ _ _ _ _ htx);have HND:=Lib.hid (And.intro hnd hcl);clear htx hnd hcl)
     refine bodyPost_ret (results_opdP2 rfl _ _ _ _ _ _ _ _ rfl HQ.out) rfl ?_
     rw[HF.out]
     exact⟨⟨_,rfl,kx,nx,qx,ux,Ax,cx,by(rw[HND.out.2] <;> rfl),HND.out.1,HT9.out⟩,HP5.out,HO5.out⟩
   have n4:(tx == ([40]:List UInt8))=false:=beq_eq_false_iff_ne.2 e4
   by_cases e5:tx=[123]
   ·subst e5
    have HFO:Hid (p.opdG g k=(p.bindG g 7 [125] k).opt):=Lib.hid (HE0.out _ (by rw[HKK.out.2.1];rfl))
    have hne2:p.bindG g 7 [125] k≠.out:=fun e=>HNE.out (by rw[HFO.out,e];rfl)
    have hcc:=bind_of_expr p HK.out g HB.out HE.out 7 [125] P k G w2 hkl hne2 S2.out.pw
    cases hpr:p.bindG g 7 [125] k with
    |out=>exact absurd hpr hne2
    |err cc aa =>
     rw[hpr] at hcc
     have CC:=Lib.hid hcc
     have HF:Hid (p.opdG g k=.err cc aa):=Lib.hid (by rw[HFO.out,hpr];rfl)
     clear hcc hpr
     go_wp2_with (go_at_call 117;refine CC.out.mono ?_;rintro e w3⟨rfl,o3⟩)
     rw[HF.out]
     exact⟨rfl,rfl,S2.out.oth.trans o3⟩
    |ok x k9 =>
     rw[hpr] at hcc
     have CC:=Lib.hid hcc
     have HF:Hid (p.opdG g k=.ok (some x) k9):=Lib.hid (by rw[HFO.out,hpr];rfl)
     clear hcc hpr
     go_wp2_with (go_at_call 117;refine CC.out.mono ?_;rintro e w3⟨⟨v,rfl,⟨kx,nx,qx,ux,Ax,cx,rfl,hnd,hcl,htx⟩⟩,h3,o3⟩;obtain⟨s1,s2,s3,s4,s5,g1,g2,g3,g4,g5,⟨⟨y0,y1,y2,y3,y4⟩,⟨f0,f1,f2,f3,f4⟩⟩,HQ,HP5,HO5,HT5⟩:=S2.out.fin HW.out h3 o3 (.int .i64 kx) (S nx) (.int .i64 qx) (.slice Ax ux.length cx) (.bool true);have HT9:=Lib.hid (HT5.out _ _ _ _ _ htx);have HND:=Lib.hid (And.intro hnd hcl);clear htx hnd hcl)
     refine bodyPost_ret (results_opdP2 rfl _ _ _ _ _ _ _ _ rfl HQ.out) rfl ?_
     rw[HF.out]
     exact⟨⟨_,rfl,kx,nx,qx,ux,Ax,cx,by(rw[HND.out.2] <;> rfl),HND.out.1,HT9.out⟩,HP5.out,HO5.out⟩
   have n5:(tx == ([123]:List UInt8))=false:=beq_eq_false_iff_ne.2 e5
   by_cases e6:tx=[91]
   ·subst e6
    have HFO:Hid (p.opdG g k=(p.bindG g 8 [93] k).opt):=Lib.hid (HE0.out _ (by rw[HKK.out.2.1];rfl))
    have hne2:p.bindG g 8 [93] k≠.out:=fun e=>HNE.out (by rw[HFO.out,e];rfl)
    have hcc:=bind_of_expr p HK.out g HB.out HE.out 8 [93] P k G w2 hkl hne2 S2.out.pw
    cases hpr:p.bindG g 8 [93] k with
    |out=>exact absurd hpr hne2
    |err cc aa =>
     rw[hpr] at hcc
     have CC:=Lib.hid hcc
     have HF:Hid (p.opdG g k=.err cc aa):=Lib.hid (by rw[HFO.out,hpr];rfl)
     clear hcc hpr
     go_wp2_with (go_at_call 117;refine CC.out.mono ?_;rintro e w3⟨rfl,o3⟩)
     rw[HF.out]
     exact⟨rfl,rfl,S2.out.oth.trans o3⟩
    |ok x k9 =>
     rw[hpr] at hcc
     have CC:=Lib.hid hcc
     have HF:Hid (p.opdG g k=.ok (some x) k9):=Lib.hid (by rw[HFO.out,hpr];rfl)
     clear hcc hpr
     go_wp2_with (go_at_call 117;refine CC.out.mono ?_;rintro e w3⟨⟨v,rfl,⟨kx,nx,qx,ux,Ax,cx,rfl,hnd,hcl,htx⟩⟩,h3,o3⟩;obtain⟨s1,s2,s3,s4,s5,g1,g2,g3,g4,g5,⟨⟨y0,y1,y2,y3,y4⟩,⟨f0,f1,f2,f3,f4⟩⟩,HQ,HP5,HO5,HT5⟩:=S2.out.fin HW.out h3 o3 (.int .i64 kx) (S nx) (.int .i64 qx) (.slice Ax ux.length cx) (.bool true);have HT9:=Lib.hid (HT5.out _ _ _ _ _ htx);have HND:=Lib.hid (And.intro hnd hcl);clear htx hnd hcl)
     refine bodyPost_ret (results_opdP2 rfl _ _ _ _ _ _ _ _ rfl HQ.out) rfl ?_
     rw[HF.out]
     exact⟨⟨_,rfl,kx,nx,qx,ux,Ax,cx,by(rw[HND.out.2] <;> rfl),HND.out.1,HT9.out⟩,HP5.out,HO5.out⟩
   have n6:(tx == ([91]:List UInt8))=false:=beq_eq_false_iff_ne.2 e6
   have HNO:Hid (tx≠[95]∧tx≠[116,121,112,101]∧tx≠[45,62]∧tx≠[60,45]∧tx≠[40]∧tx≠[123]∧tx≠[91]):=Lib.hid ⟨e0,e1,e2,e3,e4,e5,e6⟩
   clear e0 e1 e2 e3 e4 e5 e6
   have HF:Hid (p.opdG g k=.ok none k):=Lib.hid (HE0.out _ (by obtain⟨a,b,c,d,e,f,h⟩:=HNO.out;rw[HKK.out.2.1,if_neg a,if_neg b,if_neg (by rintro (h | h);exact c h;exact d h),if_neg e,if_neg f,if_neg h]))
   obtain⟨s1,s2,s3,s4,s5,g1,g2,g3,g4,g5,⟨⟨y0,y1,y2,y3,y4⟩,⟨f0,f1,f2,f3,f4⟩⟩,HQ,HP5,HO5,HT5⟩:=S2.out.fin HW.out S2.out.pw (Oth.refl _ _) (.int .i64 0) (S []) (.int .i64 0) (.slice none 0 0) (.bool false)
   go_wp2_with (fail)
   refine bodyPost_ret (results_opdP2 rfl _ _ _ _ _ _ _ _ rfl HQ.out) rfl ?_
   rw[HF.out]
   exact⟨⟨_,rfl,rfl⟩,HP5.out,HO5.out⟩
  ·have hk2':(tk != 2)=true:=by simpa using hk2
   have HF:Hid (p.opdG g k=.ok none k):=Lib.hid (by unfold Lfc.PE.opdG;rw[if_neg (by rw[HKK.out.1];exact hk1),if_pos (by rw[HKK.out.1];exact hk2)])
   obtain⟨s1,s2,s3,s4,s5,g1,g2,g3,g4,g5,⟨⟨y0,y1,y2,y3,y4⟩,⟨f0,f1,f2,f3,f4⟩⟩,HQ,HP5,HO5,HT5⟩:=S2.out.fin HW.out S2.out.pw (Oth.refl _ _) (.int .i64 0) (S []) (.int .i64 0) (.slice none 0 0) (.bool false)
   go_wp2_with (fail)
   refine bodyPost_ret (results_opdP2 rfl _ _ _ _ _ _ _ _ rfl HQ.out) rfl ?_
   rw[HF.out]
   exact⟨⟨_,rfl,rfl⟩,HP5.out,HO5.out⟩
end Go.Proofs.YthajalgkjonaaaaGreatDoor
namespace Go.Proofs.YthajalgkjonaaaaGreatDoor
open Go.RowKit
theorem opdF_c(p:Lfc.PE)(ok:POk p):∀f,OpdC' p (p.opdF f)
 |0=>fun P k G w hk hne h=>absurd rfl hne
 |f+1=>opd_of_expr p ok (p.opdF f) (Lfc.opdF_b p f) (fun P k G w hk hne h=>expr_of p ok (p.opdF f) (Lfc.opdF_b p f) (fun k x k' h hc=>Lfc.opdF_args p f k x k' h hc) (opdF_c p ok f) P k G w hk hne h)
theorem expr_any(p:Lfc.PE)(ok:POk p)(P k:Nat)(G:Hd)(w:World)(hk:k≤p.toks.length)(h:PW w P G p k) :
  Calls Tryz.prog 35 #[.pointer (some ⟨P,0,none⟩)] w (PRes P G p w (RawR w) (p.expr k)) :=
 expr_of p ok _ (Lfc.opdF_b p _) (fun k x k' h hc=>Lfc.opdF_args p _ k x k' h hc) (opdF_c p ok _) P k G w hk (Lfc.expr_ne p k) h
end Go.Proofs.YthajalgkjonaaaaGreatDoor
namespace Go.Proofs.YthajalgkjonaaaaGreatDoor
open Go.RowKit
set_option maxRecDepth 100000 in
set_option maxHeartbeats 2000000 in
theorem digits_any(s:List UInt8)(w:World)(hs:s.length≤65536):Calls Tryz.prog 196 #[S s] w fun e w'=>e=.returned (.int .i64 (Lfc.digitsP s))∧w'=w:=by
 by_cases h0:s=[]
 ·subst h0
  have hd:Lfc.digitsP []=-1:=rfl
  rw[hd]
  go_enter Tryz.func196,Tryz.ntmps196
  go_wp2_with fail
  go_ret
  exact⟨rfl,rfl⟩
 ·obtain⟨c,r,rfl⟩:=List.exists_cons_of_ne_nil h0
  have e0:((c :: r:List UInt8) == [])=false:=rfl
  have hlen:(c :: r).length=r.length+1:=rfl
  by_cases h4:4<(c :: r).length
  ·have hd:Lfc.digitsP (c :: r)=-1:=if_pos (.inr (.inl h4))
   rw[hd]
   have h4i:(4:Int)<(r.length:Int)+1:=by omega
   clear h4 hlen hd
   go_enter Tryz.func196,Tryz.ntmps196
   go_wp2_with fail
   go_ret
   exact⟨rfl,rfl⟩
  ·have h4i:(r.length:Int)+1≤4:=by omega
   by_cases hc:c.toNat=48∧1<(c :: r).length
   ·have hd:Lfc.digitsP (c :: r)=-1:=if_pos (.inr (.inr hc))
    rw[hd]
    have h5:(c.toNat:Int)=48:=by omega
    have h6:(1:Int)<(r.length:Int)+1:=by omega
    clear h4 hlen hd hc
    go_enter Tryz.func196,Tryz.ntmps196
    go_wp2_with fail
    go_ret
    exact⟨rfl,rfl⟩
   ·have hd:Lfc.digitsP (c :: r)=Lfc.digN 0 (c :: r):=if_neg (by rintro (h | h | h);exact h0 h;exact h4 h;exact hc h)
    rw[hd]
    have hcase:((c.toNat:Int)=48∧(r.length:Int)+1≤1)∨¬(c.toNat:Int)=48:=by
     by_cases e:c.toNat=48
     ·exact .inl ⟨by omega,by have:¬ 1<(c :: r).length:=fun h=>hc ⟨e,h⟩;omega⟩
     ·exact .inr (by omega)
    have H4:=Lib.hid h4
    clear h4 hlen hd hc
    rcases hcase with⟨h5,h6⟩ | h5
    all_goals
     go_enter Tryz.func196,Tryz.ntmps196
     go_upto_region 3 with fail
     clear h5
     try clear h6
     generalize hsc:c :: r=s at *
     have HSC:=Lib.hid hsc
     clear hsc
     have h4:=H4.out
     go_wp2_with fail
     go_loopw [3,24] (fun n i wr=>∃k m:Nat,k≤s.length∧i=.int .i64 (k:Int)∧n=.int .i64 (m:Int)∧m<10 ^ k∧wr=w∧Hid (Lfc.digN m (s.drop k)=Lfc.digN 0 s)) (fun _ i _=>s.length-(intOf i).toNat)
     case atStart=>exact⟨0,0,by omega,rfl,rfl,by decide,rfl,Lib.hid rfl⟩
     case round =>
      obtain⟨k,m,hk,rfl,rfl,hm,rfl,hr⟩:=hrel
      by_cases hlt:k<s.length
      ·have hdr:s.drop k=s[k] :: s.drop (k+1):=List.drop_eq_getElem_cons hlt
       have hx:=hr.out
       rw[hdr,Lfc.digN] at hx
       have hm2:m<10000:=Nat.lt_of_lt_of_le hm (Nat.pow_le_pow_right (n:=10) (by decide) (show k≤4 by omega))
       generalize hcc:s[k]=cc at *
       have hi0:(0:Int)≤(k:Int):=Int.natCast_nonneg _
       have hi1:(k:Int)<(s.length:Int):=by omega
       by_cases hlo:cc.toNat<48
       ·rw[if_pos (.inl hlo)] at hx
        have hlo':(cc.toNat:Int)<48:=by omega
        have HX:=Lib.hid hx
        clear hx hdr hr
        go_wp2_with fail
        go_ret
        exact⟨ret_int (by rw[HSC.out];exact HX.out),rfl⟩
       ·by_cases hhi:57<cc.toNat
        ·rw[if_pos (.inr hhi)] at hx
         have hlo':¬(cc.toNat:Int)<48:=by omega
         have hhi':(57:Int)<(cc.toNat:Int):=by omega
         have HX:=Lib.hid hx
         clear hx hdr hr
         go_wp2_with fail
         go_ret
         exact⟨ret_int (by rw[HSC.out];exact HX.out),rfl⟩
        ·rw[if_neg (by rintro (h | h);exact hlo h;exact hhi h)] at hx
         have hlo':¬(cc.toNat:Int)<48:=by omega
         have hhi':¬(57:Int)<(cc.toNat:Int):=by omega
         have HX:=Lib.hid hx
         have HM:=Lib.hid hm
         clear hx hdr hr hm
         go_wp2_with fail
         go_roundw
         case rel =>
          refine⟨k+1,10*m+(cc.toNat-48),hlt,by go_num,by congr 1;omega,?_,trivial,Lib.hid ?_⟩
          ·have:=HM.out
           rw[Nat.pow_succ]
           omega
          ·rw[←HX.out]
           congr 1
           omega
         case measure=>simp[intOf];omega
      ·have hk2:k=s.length:=by omega
       have HX:=Lib.hid hr.out
       go_wp2_with fail
       go_ret
       exact⟨ret_int (by rw[HSC.out,←HX.out,hk2,List.drop_length];rfl),rfl⟩
set_option maxRecDepth 100000 in
set_option maxHeartbeats 2000000 in
theorem number_any{P k:Nat}{G:Hd}{p:Lfc.PE}(least most:Int)(w:World)(h:PW w P G p k)(hk:k≤p.toks.length)(ok:POk p):Calls Tryz.prog 180 #[.pointer (some ⟨P,0,none⟩),.int .i64 least,.int .i64 most] w (PRes P G p w (fun n v _=>v=.int .i64 n) (p.number k least most)):=by
 have hlen:=ok.len
 have CP:Hid (∀W,PW W P G p k→Calls Tryz.prog 63 #[.pointer (some ⟨P,0,none⟩)] W fun e w'=>e=.returned (.agg #[.int .i64 (p.pk k).kind,S (p.pk k).text,.int .i64 ((p.pk k).pos:Int)])∧Below W.heap.size W w'):=Lib.hid fun W hW=>peek_any W hW hk ok
 have CU:Hid (∀W,PW W P G p k→Calls Tryz.prog 36 #[.pointer (some ⟨P,0,none⟩)] W fun e w'=>e=Flt (p.ux k).1 (p.ux k).2∧Below W.heap.size W w'):=Lib.hid fun W hW=>unexpected_any W hW hk ok
 have htl:(p.pk k).text.length≤65536:=by
  rcases Nat.lt_or_ge k p.toks.length with h1 | h1
  ·exact(ok.tok _ (List.mem_of_getElem? (PE.pk_of h1))).1
  ·obtain rfl:k=p.toks.length:=by omega
   rw[PE.pk_end];simp
 have CD:=Lib.hid (fun W=>digits_any (p.pk k).text W htl)
 have HW:=Lib.hid h
 have hf0:=tok_f0
 have hf1:=tok_f1
 have hlt:(p.pk k).kind=1→k<p.toks.length:=fun e=>p.pk_lt (by omega)
 have HLT:=Lib.hid hlt
 unfold Lfc.PE.number
 rw[unexp_eq]
 generalize (p.pk k).kind=tk at *
 generalize (p.pk k).text=tx at *
 generalize (p.pk k).pos=tp at *
 generalize Lfc.digitsP tx=n at *
 clear h ok htl hlt
 have bad:(tk≠1∨n<least∨most<n)→Calls Tryz.prog 180 #[.pointer (some ⟨P,0,none⟩),.int .i64 least,.int .i64 most] w (PRes P G p w (fun n v _=>v=.int .i64 n) (if tk≠1∨n<least∨most<n then .err (p.ux k).1 (p.ux k).2 else .ok n (k+1))):=fun hb=>by
  rw[if_pos hb]
  have hc:(tk != 1)=true∨((tk != 1)=false∧n<least)∨((tk != 1)=false∧¬n<least∧most<n):=by
   by_cases h1:tk=1
   ·by_cases h2:n<least
    ·exact .inr (.inl ⟨by simp[h1],h2⟩)
    ·exact .inr (.inr ⟨by simp[h1],h2,by rcases hb with h | h | h;exact absurd h1 h;exact absurd h h2;exact h⟩)
   ·exact .inl (by simpa using h1)
  clear hb
  rcases hc with h1 | ⟨h1,h2⟩ | ⟨h1,h2,h3⟩
  all_goals
   go_enter Tryz.func180,Tryz.ntmps180
   go_upto_region 2 with(first | (go_at_call 63;refine(CP.out _ HW.out).mono ?_;rintro e w1⟨rfl,b1⟩) | (go_at_call 196;refine(CD.out _).mono ?_;rintro e w2⟨rfl,hw2⟩;obtain rfl:=hw2))
   have HW1:=Lib.hid (HW.out.below b1)
   go_wp2_with (first | (go_at_call 63;refine(CP.out _ HW1.out).mono ?_;rintro e w3⟨rfl,b3⟩) | (go_at_call 36;refine(CU.out _ (HW1.out.below b3)).mono ?_;rintro e w4⟨rfl,b4⟩))
   exact⟨rfl,rfl,(Oth.of_below b1).trans ((Oth.of_below b3).trans (Oth.of_below b4))⟩
 by_cases hb:tk≠1∨n<least∨most<n
 ·exact bad hb
 ·rw[if_neg hb]
  clear bad
  obtain⟨h1,h2,h3⟩:tk=1∧¬n<least∧¬most<n:=⟨Decidable.byContradiction fun e=>hb (.inl e),fun e=>hb (.inr (.inl e)),fun e=>hb (.inr (.inr e))⟩
  have h1':(tk != 1)=false:=by simp[h1]
  have hkl:=HLT.out h1
  clear hb h1
  go_enter Tryz.func180,Tryz.ntmps180
  go_upto_region 2 with(first | (go_at_call 63;refine(CP.out _ HW.out).mono ?_;rintro e w1⟨rfl,b1⟩) | (go_at_call 196;refine(CD.out _).mono ?_;rintro e w2⟨rfl,hw2⟩;obtain rfl:=hw2))
  have HW1:=Lib.hid (HW.out.below b1)
  go_upto_region 4 with(go_at_call 63;refine(CP.out _ HW1.out).mono ?_;rintro e w3⟨rfl,b3⟩)
  have h3':=HW1.out.below b3
  obtain⟨_,x1,_,_,xf,_,_,_⟩:=h3'.cells
  have xf1:=xf 1
  have h4:=h3'.step (k+1)
  rw[show((k+1:Nat):Int)=(k:Int)+1 by omega] at h4
  have H4:=Lib.hid h4
  clear xf h3' h4
  go_wp2_with fail
  exact bodyPost_ret (v:=.int .i64 n) (by simp[results,Tryz.results180,go_sem]) rfl ⟨⟨_,rfl,rfl⟩,H4.out,(Oth.of_below b1).trans ((Oth.of_below b3).trans (Oth.set _ _))⟩
theorem idxFrom_eq(s:List UInt8):∀(ws:List (List UInt8))(i:Nat),Lib.idxFromS (ws.map fun l=>⟨l.toArray⟩) ⟨s.toArray⟩ i=if Lfc.idxW s ws<0 then -1 else Lfc.idxW s ws+(i:Int)
 |[],i=>by simp[Lib.idxFromS,Lfc.idxW]
 | a :: r, i => by
  rw[List.map_cons,Lib.idxFromS,Lfc.idxW]
  by_cases h:a=s
  ·subst h
   rw[if_pos rfl,if_pos rfl,if_neg (by decide)]
   simp
  ·rw[if_neg (fun e=>h (by simpa using e)),if_neg h,idxFrom_eq s r (i+1)]
   split
   ·rfl
   ·rw[if_neg (by omega)]
    push_cast
    omega
theorem idxOf_eq(s:List UInt8)(ws:List (List UInt8)):Lib.idxOfS (ws.map fun l=>⟨l.toArray⟩) ⟨s.toArray⟩=Lfc.idxW s ws:=by
 rw[Lib.idxOfS,idxFrom_eq]
 have:-1≤Lfc.idxW s ws:=by
  induction ws with
  |nil=>simp[Lfc.idxW]
  |cons a r ih =>
   rw[Lfc.idxW]
   split
   ·omega
   ·split <;> omega
 split
 ·omega
 ·simp
set_option maxRecDepth 100000 in
set_option maxHeartbeats 2000000 in
theorem word_any{P k:Nat}{G:Hd}{p:Lfc.PE}(ws:List (List UInt8))(b o c:Nat)(w:World)(h:PW w P G p k)(hk:k≤p.toks.length)(ok:POk p)(hws:ws.length≤1000)(hb:b<w.heap.size)(hc:∀j(hj:j<ws.length),w.cell? ⟨b,o+j,none⟩=some (S ws[j])) :
  Calls Tryz.prog 174 #[.pointer (some ⟨P,0,none⟩),.slice (some ⟨b,o,none⟩) ws.length c] w (PRes P G p w (fun n v _=>v=.int .i64 n) (p.word k ws)):=by
 have hlen:=ok.len
 have CP:Hid (∀W,PW W P G p k→Calls Tryz.prog 63 #[.pointer (some ⟨P,0,none⟩)] W fun e w'=>e=.returned (.agg #[.int .i64 (p.pk k).kind,S (p.pk k).text,.int .i64 ((p.pk k).pos:Int)])∧Below W.heap.size W w'):=Lib.hid fun W hW=>peek_any W hW hk ok
 have CU:Hid (∀W,PW W P G p k→Calls Tryz.prog 36 #[.pointer (some ⟨P,0,none⟩)] W fun e w'=>e=Flt (p.ux k).1 (p.ux k).2∧Below W.heap.size W w'):=Lib.hid fun W hW=>unexpected_any W hW hk ok
 have CI:Hid (∀W,Below w.heap.size w W→Calls Tryz.prog 187 #[.slice (some ⟨b,o,none⟩) ws.length c,S (p.pk k).text] W fun e w'=>e=.returned (.int .i64 (Lfc.idxW (p.pk k).text ws))∧w'=W):=Lib.hid fun W hW=>by
  have:=Tryz.slices_Index_string b o ws.length c (ws.map fun l=>⟨l.toArray⟩) ⟨(p.pk k).text.toArray⟩ W (by simp) (by omega) (fun j hj=>by
   have hj':j<ws.length:=by simpa using hj
   rw[(hW.cell (p:=⟨b,o+j,none⟩) hb),hc j hj']
   simp[List.getD_eq_getElem?_getD,hj'])
  rw[List.take_of_length_le (by simp),idxOf_eq] at this
  exact this
 have HW:=Lib.hid h
 have hf0:=tok_f0
 have hf1:=tok_f1
 have hlt:(p.pk k).kind=1→k<p.toks.length:=fun e=>p.pk_lt (by omega)
 have HLT:=Lib.hid hlt
 unfold Lfc.PE.word
 rw[unexp_eq]
 generalize (p.pk k).kind=tk at *
 generalize (p.pk k).text=tx at *
 generalize (p.pk k).pos=tp at *
 generalize Lfc.idxW tx ws=n at *
 clear h ok hlt hc
 by_cases hbad:n<0∨tk≠1
 ·rw[if_pos hbad]
  have hcs:n<0∨(¬n<0∧(tk != 1)=true):=by
   by_cases h1:n<0
   ·exact .inl h1
   ·exact .inr ⟨h1,by rcases hbad with h | h;exact absurd h h1;simpa using h⟩
  clear hbad
  rcases hcs with h1 | ⟨h1,h2⟩
  ·go_enter Tryz.func174,Tryz.ntmps174
   go_upto_region 2 with(first | (go_at_call 63;refine(CP.out _ HW.out).mono ?_;rintro e w1⟨rfl,b1⟩) | (go_at_call 187;refine(CI.out _ b1).mono ?_;rintro e w2⟨rfl,hw2⟩;obtain rfl:=hw2))
   have HW1:=Lib.hid (HW.out.below b1)
   go_wp2_with (go_at_call 36;refine(CU.out _ HW1.out).mono ?_;rintro e w4⟨rfl,b4⟩)
   exact⟨rfl,rfl,(Oth.of_below b1).trans (Oth.of_below b4)⟩
  ·go_enter Tryz.func174,Tryz.ntmps174
   go_upto_region 2 with(first | (go_at_call 63;refine(CP.out _ HW.out).mono ?_;rintro e w1⟨rfl,b1⟩) | (go_at_call 187;refine(CI.out _ b1).mono ?_;rintro e w2⟨rfl,hw2⟩;obtain rfl:=hw2))
   have HW1:=Lib.hid (HW.out.below b1)
   go_wp2_with (first | (go_at_call 63;refine(CP.out _ HW1.out).mono ?_;rintro e w3⟨rfl,b3⟩) | (go_at_call 36;refine(CU.out _ (HW1.out.below b3)).mono ?_;rintro e w4⟨rfl,b4⟩))
   exact⟨rfl,rfl,(Oth.of_below b1).trans ((Oth.of_below b3).trans (Oth.of_below b4))⟩
 ·rw[if_neg hbad]
  obtain⟨h1,h2⟩:¬n<0∧tk=1:=⟨fun e=>hbad (.inl e),Decidable.byContradiction fun e=>hbad (.inr e)⟩
  have h2':(tk != 1)=false:=by simp[h2]
  have hkl:=HLT.out h2
  clear hbad h2
  go_enter Tryz.func174,Tryz.ntmps174
  go_upto_region 2 with(first | (go_at_call 63;refine(CP.out _ HW.out).mono ?_;rintro e w1⟨rfl,b1⟩) | (go_at_call 187;refine(CI.out _ b1).mono ?_;rintro e w2⟨rfl,hw2⟩;obtain rfl:=hw2))
  have HW1:=Lib.hid (HW.out.below b1)
  go_upto_region 4 with(go_at_call 63;refine(CP.out _ HW1.out).mono ?_;rintro e w3⟨rfl,b3⟩)
  have h3':=HW1.out.below b3
  obtain⟨_,x1,_,_,xf,_,_,_⟩:=h3'.cells
  have xf1:=xf 1
  have h4:=h3'.step (k+1)
  rw[show((k+1:Nat):Int)=(k:Int)+1 by omega] at h4
  have H4:=Lib.hid h4
  clear xf h3' h4
  go_wp2_with fail
  exact bodyPost_ret (v:=.int .i64 n) (by simp[results,Tryz.results174,go_sem]) rfl ⟨⟨_,rfl,rfl⟩,H4.out,(Oth.of_below b1).trans ((Oth.of_below b3).trans (Oth.set _ _))⟩
end Go.Proofs.YthajalgkjonaaaaGreatDoor
namespace Go.Proofs.YthajalgkjonaaaaGreatDoor
open Go.RowKit
structure Oth3(a b c:Nat)(w w':World):Prop where
 os:w'.os=w.os
 tape:w'.tape=w.tape
 output:w'.output=w.output
 size:w.heap.size≤w'.heap.size
 block:∀k,k<w.heap.size→k≠a→k≠b→k≠c→w'.heap[k]?=w.heap[k]?
theorem one_set{w:World}{g:Nat}{v u:Value}{t:TypeId}(h:w.heap[g]?=some (.cells #[v] t (0,0))):(w.setCell ⟨g,0,none⟩ u).heap[g]?=some (.cells #[u] t (0,0)):=by
 simp[World.setCell,Array.getElem?_modify,h]
theorem put111{W:World}{a b c:Nat}{v0 v1 v2:Value}{t0 t1 t2:TypeId}(h0:W.heap[a]?=some (.cells #[v0] t0 (0,0)))(h1:W.heap[b]?=some (.cells #[v1] t1 (0,0)))(h2:W.heap[c]?=some (.cells #[v2] t2 (0,0)))(hab:a≠b)(hac:a≠c)(hbc:b≠c)(u0 u1 u2:Value) :
  ∃s1 s2 s3,W.setCell ⟨a,0,none⟩ u0=s1∧s1.setCell ⟨b,0,none⟩ u1=s2∧s2.setCell ⟨c,0,none⟩ u2=s3∧(W.cell? ⟨a,0,none⟩=some v0∧s1.cell? ⟨b,0,none⟩=some v1∧s2.cell? ⟨c,0,none⟩=some v2)∧(W.frozen? ⟨a,0,none⟩=false∧s1.frozen? ⟨b,0,none⟩=false∧s2.frozen? ⟨c,0,none⟩=false) ∧
   Hid (s3.heap[a]?=some (.cells #[u0] t0 (0,0))∧s3.heap[b]?=some (.cells #[u1] t1 (0,0))∧s3.heap[c]?=some (.cells #[u2] t2 (0,0))∧Oth3 a b c W s3):=by
 obtain⟨s1,e1⟩:∃s1,W.setCell ⟨a,0,none⟩ u0=s1:=⟨_,rfl⟩
 obtain⟨s2,e2⟩:∃s2,s1.setCell ⟨b,0,none⟩ u1=s2:=⟨_,rfl⟩
 obtain⟨s3,e3⟩:∃s3,s2.setCell ⟨c,0,none⟩ u2=s3:=⟨_,rfl⟩
 have o1:Oth a W s1:=by rw[←e1];exact Oth.set _ _
 have o2:Oth b s1 s2:=by rw[←e2];exact Oth.set _ _
 have o3:Oth c s2 s3:=by rw[←e3];exact Oth.set _ _
 have a1:s1.heap[a]?=some (.cells #[u0] t0 (0,0)):=by rw[←e1];exact one_set h0
 have b1:=o1.heap h1 (fun e=>hab e.symm)
 have c1:=o1.heap h2 (fun e=>hac e.symm)
 have a2:=o2.heap a1 hab
 have b2:s2.heap[b]?=some (.cells #[u1] t1 (0,0)):=by rw[←e2];exact one_set b1
 have c2:=o2.heap c1 (fun e=>hbc e.symm)
 have a3:=o3.heap a2 hac
 have b3:=o3.heap b2 hbc
 have c3:s3.heap[c]?=some (.cells #[u2] t2 (0,0)):=by rw[←e3];exact one_set c2
 refine⟨s1,s2,s3,e1,e2,e3,⟨Lib.cell_of_heap h0 0,Lib.cell_of_heap b1 0,Lib.cell_of_heap c2 0⟩,⟨Lib.frozen_of_heap h0 0,Lib.frozen_of_heap b1 0,Lib.frozen_of_heap c2 0⟩,Lib.hid ⟨a3,b3,c3,o3.os.trans (o2.os.trans o1.os),o3.tape.trans (o2.tape.trans o1.tape),o3.output.trans (o2.output.trans o1.output),Nat.le_trans o1.size (Nat.le_trans o2.size o3.size),fun k hk ha hb hc=>?_⟩⟩
 have z1:=o1.size
 have z2:=o2.size
 rw[o3.block k (by omega) (fun e=>hc (Option.some.inj e)),o2.block k (by omega) (fun e=>hb (Option.some.inj e)),o1.block k hk (fun e=>ha (Option.some.inj e))]
theorem fault_is(a b:Value)(w:World):(Instr.typeAssert (.iface 125 (.agg #[a,b])) 20 125 true).run Tryz.prog w=.ok (.tuple #[.agg #[a,b],.bool true]) w:=by kernel_rfl
set_option maxRecDepth 100000 in
set_option maxHeartbeats 2000000 in
theorem catch_idle(a b c:Value)(w:World) :
  CallsD Tryz.prog 62 #[a,b,c] .returning w fun e u' w'=>e=.returned (.tuple #[])∧u'=.returning∧w'=w:=by
 refine callsD_of_wpS Tryz.func62 rfl fun c₀ cs hu=>?_
 apply wpS_seq
 apply wpS_region
 simp[wpOpsS,go_sem,recoverD,hu,Tryz.ntmps62,Exit.thenS]
 refine wpS_of_wp ?_
 change Code.wp _ _ _ { tmps:=#[a,b,c,undef,undef,undef,.nilIface,undef,undef,undef,undef,undef,undef,undef,undef,undef],defers:=[] } w
 go_wp2_with fail
 cases c₀
 simp_all [bodyPostS,results,Tryz.results62]
set_option maxRecDepth 100000 in
set_option maxHeartbeats 2000000 in
theorem catch_fault(R0 R1 R2:Nat)(cc:Int)(aa:Nat)(v1 v2 v3:Value)(w:World)(h0:w.heap[R0]?=some (.cells #[v1] 26 (0,0)))(h1:w.heap[R1]?=some (.cells #[v2] 27 (0,0)))(h2:w.heap[R2]?=some (.cells #[v3] 3 (0,0)))(h01:R0≠R1)(h02:R0≠R2)(h12:R1≠R2) :
  CallsD Tryz.prog 62 #[.pointer (some ⟨R0,0,none⟩),.pointer (some ⟨R1,0,none⟩),.pointer (some ⟨R2,0,none⟩)] (.panicking [{ v:=.iface 125 (.agg #[.int .i64 cc,.int .i64 (aa:Int)]),recovered:=false }]) w fun e u' w' =>
   e=.returned (.tuple #[])∧u'=.panicking [{ v:=.iface 125 (.agg #[.int .i64 cc,.int .i64 (aa:Int)]),recovered:=true }] ∧
   w'.heap[R0]?=some (.cells #[.slice none 0 0] 26 (0,0))∧w'.heap[R1]?=some (.cells #[.int .i64 cc] 27 (0,0))∧w'.heap[R2]?=some (.cells #[.int .i64 (aa:Int)] 3 (0,0))∧Oth3 R0 R1 R2 w w':=by
 have l0:=lt_of_block h0
 have l1:=lt_of_block h1
 have l2:=lt_of_block h2
 obtain⟨wa,hwa⟩:∃wa,w.alloc (.cells #[.int .i64 cc,.int .i64 (aa:Int)] 125)=wa:=⟨_,rfl⟩
 have ba:Below w.heap.size w wa:=by rw[←hwa];exact(Below.refl _ _).alloc (Nat.le_refl _) _
 have qa:wa.heap[w.heap.size]?=some (.cells #[.int .i64 cc,.int .i64 (aa:Int)] 125 (0,0)):=by rw[←hwa];exact heap_alloc_new _ _
 obtain⟨s1,s2,s3,e1,e2,e3,⟨y0,y1,y2⟩,⟨f0,f1,f2⟩,HQ⟩:=put111 (W:=wa.drew) ((ba.block _ l0).trans h0) ((ba.block _ l1).trans h1) ((ba.block _ l2).trans h2) h01 h02 h12 (.slice none 0 0) (.int .i64 cc) (.int .i64 (aa:Int))
 have x0:wa.cell? ⟨w.heap.size,0,none⟩=some (.int .i64 cc):=Lib.cell_of_heap qa 0
 have x1:wa.cell? ⟨w.heap.size,1,none⟩=some (.int .i64 (aa:Int)):=Lib.cell_of_heap qa 1
 have hla:=lt_of_block qa
 have o1:Oth R0 wa.drew s1:=by rw[←e1];exact Oth.set _ _
 have o2:Oth R1 s1 s2:=by rw[←e2];exact Oth.set _ _
 have hs1:wa.heap.size≤s1.heap.size:=o1.size
 have x10:=(o1.cell (p:=⟨w.heap.size,0,none⟩) hla (by simp only;omega)).trans x0
 have x11:=(o1.cell (p:=⟨w.heap.size,1,none⟩) hla (by simp only;omega)).trans x1
 have x20:=(o2.cell (p:=⟨w.heap.size,0,none⟩) (by simp only;omega) (by simp only;omega)).trans x10
 have x21:=(o2.cell (p:=⟨w.heap.size,1,none⟩) (by simp only;omega) (by simp only;omega)).trans x11
 have BA:=Lib.hid ba
 have hta:=fault_is
 clear o1 o2
 clear ba qa h0 h1 h2
 refine callsD_of_wpS Tryz.func62 rfl fun c₀ cs hu=>?_
 apply wpS_seq
 apply wpS_region
 simp[wpOpsS,go_sem,recoverD,hu,Tryz.ntmps62,Exit.thenS]
 refine wpS_of_wp ?_
 change Code.wp _ _ _ { tmps:=#[.pointer (some ⟨R0,0,none⟩),.pointer (some ⟨R1,0,none⟩),.pointer (some ⟨R2,0,none⟩),undef,undef,undef,.iface 125 (.agg #[.int .i64 cc,.int .i64 (aa:Int)]),undef,undef,undef,undef,undef,undef,undef,undef,undef],defers:=[] } w
 go_wp2_with fail
 go_region
 go_wp2_with fail
 obtain⟨q0,q1,q2,o⟩:=HQ.out
 have ho:Oth3 R0 R1 R2 w s3:=⟨o.os.trans BA.out.os,o.tape.trans BA.out.tape,o.output.trans BA.out.output,Nat.le_trans BA.out.size o.size,fun k hk h0 h1 h2=>(o.block k (by show k<wa.heap.size;have:=BA.out.size;omega) h0 h1 h2).trans (BA.out.block k hk)⟩
 simp[bodyPostS,results,Tryz.results62,q0,q1,q2,ho]
end Go.Proofs.YthajalgkjonaaaaGreatDoor
