/- Parts of the proof that no input makes the law false: PaWb, PaWc, PaWd. -/
import Derived.Test.YthajalgkjonaaaaGreatDoorBxAP
set_option linter.unusedVariables false
set_option linter.unusedSimpArgs false
set_option maxRecDepth 100000
set_option maxHeartbeats 32000000
namespace Go.Proofs.YthajalgkjonaaaaGreatDoor
open Go.RowKit _root_.Lfc
structure WrT(Wr:Nat)(A B:Option Addr)(d:Nat)(w:World)(qs:List (List UInt8))(ws:List (List UInt8))(A':Option Addr)(c':Nat)(W:World):Prop where
 wr:WrI Wr W A' c' B d ws qs
 kp:Kp (WE Wr A B) (WE Wr A' B) w W
 bel:Below Wr w W
theorem WrT.start{Wr:Nat}{A B:Option Addr}{c d:Nat}{w:World}{qs ws:List (List UInt8)}(h:WrI Wr w A c B d ws qs):WrT Wr A B d w qs ws A c w:=⟨h,Kp.refl _ _,zB _ _⟩
theorem WrT.below{Wr:Nat}{A B:Option Addr}{d:Nat}{w:World}{qs ws:List (List UInt8)}{A1:Option Addr}{c1:Nat}{W W':World}(h:WrT Wr A B d w qs ws A1 c1 W)(hb:Below W.heap.size W W'):WrT Wr A B d w qs ws A1 c1 W' :=
 ⟨h.wr.below hb,h.kp.trans (Kp.of_below hb),h.bel.trans (hb.mono (Nat.le_of_lt h.wr.lt))⟩
theorem WrT.step{Wr:Nat}{A B:Option Addr}{d:Nat}{w:World}{qs ws ws':List (List UInt8)}{A1:Option Addr}{c1:Nat}{W W':World}(h:WrT Wr A B d w qs ws A1 c1 W)(ha:WrA Wr A1 B d W ws' qs W'):∃A' c',WrT Wr A B d w qs ws' A' c' W':=by
 obtain⟨A',c',h1,h2⟩:=ha;exact⟨A',c',h1,h.kp.trans h2,h.bel.trans (h2.below_of h.wr (zN _))⟩
theorem WrT.toA{Wr:Nat}{A B:Option Addr}{d:Nat}{w:World}{qs ws:List (List UInt8)}{A1:Option Addr}{c1:Nat}{W:World}(h:WrT Wr A B d w qs ws A1 c1 W):WrA Wr A B d w ws qs W:=⟨A1,c1,h.wr,h.kp⟩
theorem WrT.box{Wr K:Nat}{A B:Option Addr}{d:Nat}{w:World}{qs ws:List (List UInt8)}{A1:Option Addr}{c1:Nat}{W W':World}{ws':List (List UInt8)}{cs:Array Value}{t:TypeId}(h:WrT Wr A B d w qs ws A1 c1 W)(hk:W.heap[K]?=some (.cells cs t (0,0)))(h1:t≠81)(h2:t≠9)(ha:WrA Wr A1 B d W ws' qs W'):W'.heap[K]?=some (.cells cs t (0,0)):=by
 obtain⟨A',c',_,h4⟩:=ha;exact(h4.keep K (zL hk) (h.wr.not_E hk h1 h2)).trans hk
theorem bnds_at{w:World}{X:Option Addr}{l:List Bnd}(h:BndsAt w X l){k:Nat}(hk:k<l.length):∃b o kd nm p us D g,X=some ⟨b,o,none⟩∧w.cell? ⟨b,o+k*5,none⟩=some (S l[k].1)∧w.cell? ⟨b,o+k*5+1,none⟩=some (.int .i64 kd)∧w.cell? ⟨b,o+k*5+2,none⟩=some (S nm)∧w.cell? ⟨b,o+k*5+3,none⟩=some (.int .i64 p)∧w.cell? ⟨b,o+k*5+4,none⟩=some (.slice D us g)∧TreeV w l[k].2 (.agg #[.int .i64 kd,S nm,.int .i64 p,.slice D us g]):=by
 obtain⟨b,o,e,hb,hc⟩:=h (by intro e;rw[e] at hk;simp at hk);obtain⟨v0,v1,v2,v3,c0,_,c1,c2,c3,c4,hT⟩:=hc k hk;generalize l[k].2=t at *;obtain⟨kd,nm,p,us⟩:=t;obtain⟨D,g,e2,_,_⟩:=TreeV.open_ ⟨v0,v1,v2,v3,rfl,hT⟩;injection e2 with e2;have e2:=congrArg Array.toList e2;simp only[List.cons.injEq] at e2;obtain⟨e20,e21,e22,e23,_⟩:=e2;subst e20 e21 e22 e23;exact⟨b,o,kd,nm,p,us.length,D,g,e,c0,c1,c2,c3,c4,_,_,_,_,rfl,hT⟩
theorem spoil_below{Wr b:Nat}{w:World}(h:Wr≤b):∃W,Below Wr w W∧∀a:Addr,a.block=b→W.cell? a=none:=by
 refine⟨{ w with heap:=w.heap.setIfInBounds b (.chan 0 #[] false 0 0 false) },⟨rfl,rfl,rfl,by simp,fun k hk=>?_⟩,fun a ha=>?_⟩
 ·simp only;rw[Array.getElem?_setIfInBounds_ne (by omega)]
 unfold World.cell?;simp only[ha];rw[Array.getElem?_setIfInBounds_self];split <;> first | rfl | (rename_i h1;split at h1 <;> cases h1)
theorem bnds_lt{Wr:Nat}{w:World}{X:Option Addr}{l:List Bnd}(h:∀W,Below Wr w W→BndsAt W X l)(hne:l≠[]):∀a,X=some a→a.block<Wr:=fun a ha=>by
 rcases Nat.lt_or_ge a.block Wr with h1 | h1
 ·exact h1
 obtain⟨W,hb,hW⟩:=spoil_below (w:=w) h1;obtain⟨b,o,e,_,hc⟩:=h W hb hne;obtain⟨v0,v1,v2,v3,c0,_⟩:=hc 0 (List.length_pos_iff.2 hne);rw[ha] at e;cases e;rw[hW ⟨b,o+0*5,none⟩ rfl] at c0;cases c0
theorem below_cell{Wr b o:Nat}{w W:World}(h:Below Wr w W)(ha:b<Wr):W.cell? ⟨b,o,none⟩=w.cell? ⟨b,o,none⟩:=by
 unfold World.cell?;rw[h.block _ ha]
theorem bnds_fix{Wr:Nat}{w:World}{X:Option Addr}{l:List Bnd}(h:∀W,Below Wr w W→BndsAt W X l){k:Nat}(hk:k<l.length):∃b o kd nm p us D g,X=some ⟨b,o,none⟩∧∀W,Below Wr w W→W.cell? ⟨b,o+k*5,none⟩=some (S l[k].1)∧W.cell? ⟨b,o+k*5+1,none⟩=some (.int .i64 kd)∧W.cell? ⟨b,o+k*5+2,none⟩=some (S nm)∧W.cell? ⟨b,o+k*5+3,none⟩=some (.int .i64 p)∧W.cell? ⟨b,o+k*5+4,none⟩=some (.slice D us g)∧TreeV W l[k].2 (.agg #[.int .i64 kd,S nm,.int .i64 p,.slice D us g]):=by
 obtain⟨b,o,kd,nm,p,us,D,g,e,c0,c1,c2,c3,c4,hT⟩:=bnds_at (h w (zB _ _)) hk;have hb:=bnds_lt h (by intro e;rw[e] at hk;simp at hk) _ e;refine⟨b,o,kd,nm,p,us,D,g,e,fun W hW=>?_⟩;obtain⟨b',o',kd',nm',p',us',D',g',e',d0,d1,d2,d3,d4,hT'⟩:=bnds_at (h W hW) hk;rw[e] at e';cases e';rw[below_cell hW hb] at d0 d1 d2 d3 d4;rw[c1] at d1;cases d1;rw[c2] at d2;rw[c3] at d3;cases d3;rw[c4] at d4;cases d4;have e2:=zO d2;rw[←e2] at hT';exact⟨(below_cell hW hb).trans c0,(below_cell hW hb).trans c1,(below_cell hW hb).trans c2,(below_cell hW hb).trans c3,(below_cell hW hb).trans c4,hT'⟩
theorem bndsW_snoc(q:List (List UInt8))(l:List Bnd)(b:Bnd):bndsW q (l++[b])=bndsW q l++[[123],b.1,[58],b.2.fmt q,[125]]:=by simp[bndsW]
theorem wbinders_any{Wr:Nat}{w:World}{A B:Option Addr}{c d:Nat}{ws qs:List (List UInt8)}(h:WrI Wr w A c B d ws qs)(l:List Bnd)(X:Option Addr)(cx:Nat)(hx:∀W,Below Wr w W->BndsAt W X l)(hs:∀b∈l,b.2.size<=1000000)(hn:l.length<=100000)(hl:ws.length+5*l.length<=900000000)(hq:qs.length<=1000000) :
  Calls Tryz.prog 53 #[.pointer (some ⟨Wr,0,none⟩),.slice X l.length cx] w fun e w'=>e=.returned (.tuple #[])/\WrA Wr A B d w (ws++bndsW qs l) qs w':=by
 have HX:=zH hx;have HS:=zH hs;have H0:Hid (WrT Wr A B d w qs (ws++bndsW qs (l.take 0)) A c w):=zH (by simpa[bndsW] using WrT.start h);have HN:Hid (∃n,l.length=n):=zH ⟨_,rfl⟩;obtain⟨n,hnl⟩:∃n,l.length=n:=⟨_,rfl⟩;have HNL:=zH hnl;rw[hnl] at hn hl ⊢;clear hx hs h hnl HN;go_enter Tryz.func53,Tryz.ntmps53;go_wp2_with fail;go_loopw [8] (fun i wr=>∃(k:Nat)(A':Option Addr)(c':Nat),k<=n/\i=zI k/\Hid (WrT Wr A B d w qs (ws++bndsW qs (l.take k)) A' c' wr)) (fun i _=>n-(intOf i).toNat);case atStart=>exact⟨0,A,c,by omega,rfl,H0⟩
 clear H0;obtain⟨k,A1,c1,hk,rfl,HI⟩:=hrel;by_cases hlt:k<n
 ·have hkl:k<l.length:=by rw[HNL.o];exact hlt
  obtain⟨b,o,kd,nm,p,us,D,g,rfl,hfix⟩:=bnds_fix HX.o hkl;obtain⟨e0,e1,e2,e3,e4,_⟩:=hfix wr HI.o.bel;have HFX:=zH (fun W hW=>(hfix W hW).2.2.2.2.2);clear hfix;have hi0:=zP k;have hi1:(k:Int)<(n:Int):=by omega
  have HW:Hid (ws++bndsW qs (l.take (k+1))=((ws++bndsW qs (l.take k))++[[123],l[k].1,[58]]++[l[k].2.fmt qs]++[[125]])/\(ws++bndsW qs (l.take k)).length<=ws.length+5*k):=zH (by
   refine⟨by rw[Zm hkl,bndsW_snoc];simp,?_⟩;have:∀m:List Bnd,(bndsW qs m).length=5*m.length:=fun m=>by
    induction m with
    |nil=>rfl
    |cons a r ih=>simp only[bndsW,List.flatMap_cons,Zq,List.length_cons,List.length_nil] at ih ⊢;omega
   rw[Zq,this,List.length_take];have:min k l.length<=k:=Nat.min_le_left _ _;omega)
  have HSZ:=zH (HS.o _ (Ze hkl));generalize hb1:l[k].1=bn at *;generalize hb2:l[k].2=bt at *;generalize hwt:ws++bndsW qs (l.take (k+1))=wt at *;have HWT:=zH hwt;clear hwt;generalize ws++bndsW qs (l.take k)=wk at *;have hwk:wk.length<=ws.length+5*k:=HW.o.2;clear hb1 hb2;obtain⟨w6,hw6⟩:∃w6,wr.alloc (.cells #[S bn,zI kd,S nm,zI p,.slice D us g] 72)=w6:=⟨_,rfl⟩;have b6:=zG hw6;have q6:=zQ hw6;have Q6:=zH q6;have z0:=zC q6 0;simp at z0;have S6:=zH (HI.o.below b6);have CA:=zH (wadd_new S6.o.wr [[123],bn,[58]] (by simp;omega));have BW:=zH b6;clear q6 b6;go_upto_region 3 with fail;clear e0 e1 e2 e3 e4 hw6;go_upto_region 4 with(go_at_call 50;refine CA.o.mono ?_;rintro e w7⟨rfl,hr⟩;have q7:=S6.o.box Q6.o (by decide) (by decide) hr;have hb7:Below Wr w6 w7:=(by obtain⟨A9,c9,h9,k9⟩:=hr;exact k9.below_of S6.o.wr (zN _));obtain⟨A7,c7,S7⟩:=S6.o.step hr);have S7:=zH S7;have Q7:=zH q7;have z1:=zC q7 1;have z2:=zC q7 2;have z3:=zC q7 3;have z4:=zC q7 4;simp at z1 z2 z3 z4;have HT7:=zH (HFX.o w7 S7.o.bel);have CT:=zH (wtree_any S7.o.wr bt _ HT7.o HSZ.o (by simp;omega) hq);clear hr CA z0 q7 S6 Q6 hb7;go_upto_region 5 with(go_at_call 51;refine CT.o.mono ?_;rintro e w8⟨rfl,hr⟩;obtain⟨A8,c8,S8⟩:=S7.o.step hr);have S8:=zH S8;have CE:=zH (wadd_new S8.o.wr [[125]] (by simp;omega));clear hr CT z1 z2 z3 z4 S7 Q7 HT7 HFX;go_upto_region 6 with(go_at_call 50;refine CE.o.mono ?_;rintro e w9⟨rfl,hr⟩;obtain⟨A9,c9,S9⟩:=S8.o.step hr);rw[<-HW.o.1] at S9;have S9:=zH S9;clear hr CE S8;go_wp2_with fail;go_roundw;case rel=>exact⟨k+1,A9,c9,by omega,by go_num,by rw[HWT.o];exact S9⟩
  case measure=>simp[intOf];omega
 have HF:Hid (WrA Wr A B d w (ws++bndsW qs l) qs wr):=zH (by
  have h1:=HI.o.toA;rwa[List.take_of_length_le (by rw[HNL.o];omega)] at h1)
 go_wp2_with fail
 go_end0
 exact⟨rfl,HF.o⟩
theorem ords_lt{Wr:Nat}{w:World}{X:Option Addr}{l:List Lfc.Ord}(h:∀W,Below Wr w W→OrdsAt W X l)(hne:l≠[]):∀a,X=some a→a.block<Wr:=fun a ha=>by
 rcases Nat.lt_or_ge a.block Wr with h1 | h1
 ·exact h1
 obtain⟨W,hb,hW⟩:=spoil_below (w:=w) h1;obtain⟨b,o,_,_,_,_,_,e,_,_,c0,_⟩:=(h W hb).at_ (List.length_pos_iff.2 hne);rw[ha] at e;cases e;rw[hW ⟨b,o+0*3,none⟩ rfl] at c0;cases c0
theorem ords_fix{Wr:Nat}{w:World}{X:Option Addr}{l:List Lfc.Ord}(h:∀W,Below Wr w W→OrdsAt W X l){k:Nat}(hk:k<l.length):∃b o kd a us D g,X=some ⟨b,o,none⟩∧∀W,Below Wr w W→W.cell? ⟨b,o+k*3,none⟩=some (.int .i64 kd)∧W.cell? ⟨b,o+k*3+1,none⟩=some (.int .i64 a)∧W.cell? ⟨b,o+k*3+2,none⟩=some (.slice D us g)∧OrdV W l[k] (.agg #[.int .i64 kd,.int .i64 a,.slice D us g]):=by
 obtain⟨b,o,kd,a,us,D,g,e,_,hl,c0,c1,c2,_,_,hT⟩:=(h w (zB _ _)).at_ hk;have hb:=ords_lt h (by intro e;rw[e] at hk;simp at hk) _ e;refine⟨b,o,kd,a,us.length,D,g,e,fun W hW=>?_⟩;obtain⟨b',o',kd',a',us',D',g',e',_,hl',d0,d1,d2,_,_,hT'⟩:=(h W hW).at_ hk;rw[e] at e';cases e';rw[below_cell hW hb] at d0 d1 d2;rw[c0] at d0;cases d0;rw[c1] at d1;cases d1;rw[c2] at d2;have e2:=zO d2;rw[←e2] at hT';exact⟨(below_cell hW hb).trans c0,(below_cell hW hb).trans c1,(below_cell hW hb).trans c2,hT'⟩
theorem ordv_slices{w:World}{k a:Int}{ps:List Lfc.Ord}{P:Option Addr}{n c:Nat}(h:OrdV w (.node k a ps) (.agg #[.int .i64 k,.int .i64 a,.slice P n c])):OrdsAt w P ps:=by
 obtain⟨A,c',e,_,hA⟩:=h.open_;injection e with e;have e:=congrArg Array.toList e;simp only[List.cons.injEq,Value.slice.injEq] at e;obtain⟨_,_,⟨rfl,_,_⟩,_⟩:=e;exact hA
theorem wordss_snoc:∀(l:List Lfc.Ord)(o:Lfc.Ord),Lfc.Ord.wordss (l++[o])=Lfc.Ord.wordss l++o.words
 |[],o=>by simp[Lfc.Ord.wordss]
 |a :: r,o=>by rw[List.cons_append,Lfc.Ord.wordss,Lfc.Ord.wordss,wordss_snoc r o,List.append_assoc]
mutual
theorem words_le:∀o:Lfc.Ord,o.words.length≤2*o.size
 |.node k a ps=>by
  rw[Lfc.Ord.words,Lfc.Ord.size];have:=wordss_le ps;split
  ·simp;omega
  simp;omega
theorem wordss_le:∀l:List Lfc.Ord,(Lfc.Ord.wordss l).length≤2*Lfc.Ord.sizes l
 |[]=>by simp[Lfc.Ord.wordss]
 |a :: r=>by
  have h1:=words_le a;have h2:=wordss_le r;rw[Lfc.Ord.wordss,Lfc.Ord.sizes,Zq];omega
end
theorem sizes_tk:∀(l:List Lfc.Ord)(k:Nat)(h:k<l.length),Lfc.Ord.sizes (l.take k)+l[k].size≤Lfc.Ord.sizes l
 |a :: r,0,_=>by simp[Lfc.Ord.sizes]
 |a :: r,k+1,h=>by have:=sizes_tk r k (by simpa using h);rw[Zc,Lfc.Ord.sizes,Lfc.Ord.sizes];simp only[List.getElem_cons_succ];omega
theorem ofms_get{d:Int}:∀{l:List Lfc.Ord},Lfc.Ord.ofms d l=true→∀k(h:k<l.length),l[k].ofm d=true
 |a :: r,h,0,_=>by rw[Lfc.Ord.ofms,Za] at h;exact h.1
 |a :: r,h,k+1,hk=>by rw[Lfc.Ord.ofms,Za] at h;exact ofms_get h.2 k (by simpa using hk)
theorem sizes_get:∀{l:List Lfc.Ord}(k:Nat)(h:k<l.length),l[k].size≤Lfc.Ord.sizes l
 |a :: r,0,_=>by simp[Lfc.Ord.sizes]
 |a :: r,k+1,hk=>by have:=sizes_get (l:=r) k (by simpa using hk);rw[Lfc.Ord.sizes];simp only[List.getElem_cons_succ];omega
theorem worder_upto(m:Nat)(hmm:m<=100000):∀(t:Lfc.Ord)(v:Value)(dp:Int)(Wr:Nat)(w:World)(A B:Option Addr)(c d:Nat)(ws qs:List (List UInt8)),t.size<=m->t.ofm dp=true->WrI Wr w A c B d ws qs->(∀W,Below Wr w W->OrdV W t v)->ws.length+2*t.size<=900000000->qs.length<=1000000 ->
  Calls Tryz.prog 112 #[.pointer (some ⟨Wr,0,none⟩),v] w fun e w'=>e=.returned (.tuple #[])/\WrA Wr A B d w (ws++t.words) qs w':=by
 induction m with
 |zero=>intro t v dp Wr w A B c d ws qs h;obtain⟨_,_,_⟩:=t;simp[Lfc.Ord.size] at h
 |succ m ih =>
  intro t v dp Wr w A B c d ws qs hm hf h hv hl hq;have IH:=zH (ih (by omega));clear ih;obtain⟨k,a,ps⟩:=t;obtain⟨P,cp,rfl,_,_⟩:=(hv w (zB _ _)).open_;have HP:=zH (fun W hW=>ordv_slices (hv W hW));obtain⟨w6,hw6⟩:∃w6,w.alloc (.cells #[zI k,zI a,.slice P ps.length cp] 40)=w6:=⟨_,rfl⟩;have b6:=zG hw6;have q6:=zQ hw6;have Q6:=zH q6;have z0:=zC q6 0;have z1:=zC q6 1;simp at z0 z1;have S6:=zH ((WrT.start h).below b6);clear q6 b6 hv h;rw[Lfc.Ord.ofm] at hf;rw[Lfc.Ord.size] at hm hl;by_cases h1:k=1
  ·subst h1;rw[if_pos rfl] at hf;simp only[Za,Zd] at hf;obtain⟨an,rfl⟩:=Int.eq_ofNat_of_zero_le (show 0<=a by omega);have HW:Hid ((Lfc.Ord.node 1 (an:Int) ps).words=[dec an]):=zH (by rw[Lfc.Ord.words,if_pos rfl];simp);rw[HW.o];have CI:=zH (fun W=>Tryz.strconv_Itoa_small an (by omega) W);have CA:=zH (wadd_new S6.o.wr [dec an] (by simp;omega));clear hf HW
   as_aux_lemma =>
    go_enter Tryz.func112,Tryz.ntmps112;go_upto_region 1 with fail;clear hw6;go_wp2_with (first | (go_at_call 52;(with_reducible refine(CI.o _).mono ?_);rintro e w7⟨rfl,rfl⟩) | (go_at_call 50;refine CA.o.mono ?_;rintro e w8⟨rfl,hr⟩;obtain⟨A8,c8,S8⟩:=S6.o.step hr));have HF:=zH S8.toA;clear hr S8;go_wp2_with fail;refine Zb (results_none rfl _ _ _) ?_;exact⟨rfl,HF.o⟩
  rw[if_neg h1] at hf;by_cases h23:k=2\/k=3
  ·rw[if_pos h23] at hf;simp only[Za,Zd] at hf;have HFS:=zH hf.2;have HZ:Hid (Lfc.Ord.sizes ps<=m):=zH (by omega);obtain⟨n,hn⟩:∃n,ps.length=n:=⟨_,rfl⟩;have HNL:=zH hn;have hnm:n<=100000:=(by have:=Lfc.Ord.sizes_len ps;omega);rw[hn] at hw6 Q6 ⊢;have HL:Hid (ws.length+2*(Lfc.Ord.sizes ps+1)<=900000000):=zH (by omega);clear hf hn h1 hm hl z1;rcases h23 with rfl | rfl
   ·as_aux_lemma =>
    have HW:Hid ((Lfc.Ord.node 2 a ps).words=[123] :: (Lfc.Ord.wordss ps++[[125]])):=zH (by rw[Lfc.Ord.words,if_neg (by decide)];simp);rw[HW.o];have CA:=zH (wadd_new S6.o.wr [[123]] (by have:=HL.o;simp;omega));go_enter Tryz.func112,Tryz.ntmps112;go_upto_region 1 with fail;clear hw6;go_upto_region 8 with(go_at_call 50;refine CA.o.mono ?_;rintro e w7⟨rfl,hr⟩;have q7:=S6.o.box Q6.o (by decide) (by decide) hr;obtain⟨A7,c7,S7⟩:=S6.o.step hr);have y2:=zC q7 2;simp at y2;have S7:Hid (WrT Wr A B d w qs (ws++[123] :: Lfc.Ord.wordss (ps.take 0)) A7 c7 w7):=zH (by simpa[Lfc.Ord.wordss] using S7);clear hr q7 CA z0 S6 Q6 HW;go_wp2_with fail;go_loopw [27] (fun i wr=>∃(k:Nat)(A':Option Addr)(c':Nat),k<=n/\i=zI k/\Hid (WrT Wr A B d w qs (ws++[123] :: Lfc.Ord.wordss (ps.take k)) A' c' wr)) (fun i _=>n-(intOf i).toNat);case atStart=>exact⟨0,A7,c7,by omega,rfl,S7⟩
    clear S7 y2;obtain⟨k,A1,c1,hk,rfl,HI⟩:=hrel;by_cases hlt:k<n
    ·have hkl:k<ps.length:=(by rw[HNL.o];exact hlt);obtain⟨b,o,kd,ar,us,D,g,rfl,hfix⟩:=ords_fix HP.o hkl;obtain⟨e0,e1,e2,_⟩:=hfix wr HI.o.bel;have HFX:=zH (fun W hW=>(hfix W hW).2.2.2);have hi0:=zP k;have hi1:(k:Int)<(n:Int):=(by omega);have HWT:Hid (ws++[123] :: Lfc.Ord.wordss (ps.take (k+1))=(ws++[123] :: Lfc.Ord.wordss (ps.take k))++ps[k].words/\(ws++[123] :: Lfc.Ord.wordss (ps.take k)).length+2*ps[k].size<=900000000):=zH (by
      refine⟨by rw[Zm hkl,wordss_snoc];simp,?_⟩;have h1:=wordss_le (ps.take k);have h2:=sizes_tk ps k hkl;have h3:=HL.o;simp only[Zq,List.length_cons];omega)
     have HO:=zH (⟨ofms_get HFS.o k hkl,zR (sizes_get k hkl) HZ.o⟩:ps[k].ofm (dp+1)=true/\ps[k].size<=m);generalize hbt:ps[k]=pt at *;generalize hwt:ws++[123] :: Lfc.Ord.wordss (ps.take (k+1))=wt at *;have HWE:=zH hwt;generalize ws++[123] :: Lfc.Ord.wordss (ps.take k)=wk at *;clear hfix hbt hwt;obtain⟨w8,hw8⟩:∃w8,wr.alloc (.cells #[zI kd,zI ar,.slice D us g] 40)=w8:=⟨_,rfl⟩;have b8:=zG hw8;have q8:=zQ hw8;have z0:=zC q8 0;have z1:=zC q8 1;have z2:=zC q8 2;simp at z0 z1 z2;have S8:=zH (HI.o.below b8);have CO:=zH (IH.o pt _ (dp+1) Wr w8 A1 B c1 d wk qs HO.o.2 HO.o.1 S8.o.wr (fun W hW=>HFX.o W (S8.o.bel.trans hW)) HWT.o.2 hq);clear q8 b8;go_upto_region 11 with fail;clear e0 e1 e2 hw8;go_upto_region 12 with(go_at_call 112;refine CO.o.mono ?_;rintro e w9⟨rfl,hr⟩;obtain⟨A9,c9,S9⟩:=S8.o.step hr);rw[<-HWT.o.1] at S9;have S9:=zH S9;clear hr CO S8 z0 z1 z2 HFX;go_wp2_with fail;go_roundw;case rel=>exact⟨k+1,A9,c9,by omega,by go_num,by rw[HWE.o];exact S9⟩
     case measure=>simp[intOf];omega
    have HF:Hid (WrT Wr A B d w qs (ws++[123] :: Lfc.Ord.wordss ps) A1 c1 wr):=zH (by
     have h1:=HI.o;rwa[List.take_of_length_le (by rw[HNL.o];omega)] at h1)
    have HLF:Hid ((ws++[123] :: Lfc.Ord.wordss ps).length<=900000000):=zH (by
     have h1:=wordss_le ps;have h3:=HL.o;simp only[Zq,List.length_cons];omega)
    have HWF:Hid (ws++[123] :: (Lfc.Ord.wordss ps++[[125]])=(ws++[123] :: Lfc.Ord.wordss ps)++[[125]]):=zH (by simp);generalize ws++[123] :: Lfc.Ord.wordss ps=wk at *;have CE:=zH (wadd_new HF.o.wr [[125]] (by have:=HLF.o;simp;omega));clear HI;go_wp2_with (go_at_call 50;refine CE.o.mono ?_;rintro e w9⟨rfl,hr⟩;obtain⟨A9,c9,S9⟩:=HF.o.step hr);have S9:=zH S9.toA;clear hr
    go_end0
    exact⟨rfl,by rw[HWF.o];exact S9.o⟩
   as_aux_lemma =>
   have HW:Hid ((Lfc.Ord.node 3 a ps).words=[91] :: (Lfc.Ord.wordss ps++[[93]])):=zH (by rw[Lfc.Ord.words,if_neg (by decide)];simp);rw[HW.o];have CA:=zH (wadd_new S6.o.wr [[91]] (by have:=HL.o;simp;omega));go_enter Tryz.func112,Tryz.ntmps112;go_upto_region 1 with fail;clear hw6;go_upto_region 8 with(go_at_call 50;refine CA.o.mono ?_;rintro e w7⟨rfl,hr⟩;have q7:=S6.o.box Q6.o (by decide) (by decide) hr;obtain⟨A7,c7,S7⟩:=S6.o.step hr);have y2:=zC q7 2;simp at y2;have S7:Hid (WrT Wr A B d w qs (ws++[91] :: Lfc.Ord.wordss (ps.take 0)) A7 c7 w7):=zH (by simpa[Lfc.Ord.wordss] using S7);clear hr q7 CA z0 S6 Q6 HW;go_wp2_with fail;go_loopw [27] (fun i wr=>∃(k:Nat)(A':Option Addr)(c':Nat),k<=n/\i=zI k/\Hid (WrT Wr A B d w qs (ws++[91] :: Lfc.Ord.wordss (ps.take k)) A' c' wr)) (fun i _=>n-(intOf i).toNat);case atStart=>exact⟨0,A7,c7,by omega,rfl,S7⟩
   clear S7 y2;obtain⟨k,A1,c1,hk,rfl,HI⟩:=hrel;by_cases hlt:k<n
   ·have hkl:k<ps.length:=(by rw[HNL.o];exact hlt);obtain⟨b,o,kd,ar,us,D,g,rfl,hfix⟩:=ords_fix HP.o hkl;obtain⟨e0,e1,e2,_⟩:=hfix wr HI.o.bel;have HFX:=zH (fun W hW=>(hfix W hW).2.2.2);have hi0:=zP k;have hi1:(k:Int)<(n:Int):=(by omega);have HWT:Hid (ws++[91] :: Lfc.Ord.wordss (ps.take (k+1))=(ws++[91] :: Lfc.Ord.wordss (ps.take k))++ps[k].words/\(ws++[91] :: Lfc.Ord.wordss (ps.take k)).length+2*ps[k].size<=900000000):=zH (by
     refine⟨by rw[Zm hkl,wordss_snoc];simp,?_⟩;have h1:=wordss_le (ps.take k);have h2:=sizes_tk ps k hkl;have h3:=HL.o;simp only[Zq,List.length_cons];omega)
    have HO:=zH (⟨ofms_get HFS.o k hkl,zR (sizes_get k hkl) HZ.o⟩:ps[k].ofm (dp+1)=true/\ps[k].size<=m);generalize hbt:ps[k]=pt at *;generalize hwt:ws++[91] :: Lfc.Ord.wordss (ps.take (k+1))=wt at *;have HWE:=zH hwt;generalize ws++[91] :: Lfc.Ord.wordss (ps.take k)=wk at *;clear hfix hbt hwt;obtain⟨w8,hw8⟩:∃w8,wr.alloc (.cells #[zI kd,zI ar,.slice D us g] 40)=w8:=⟨_,rfl⟩;have b8:=zG hw8;have q8:=zQ hw8;have z0:=zC q8 0;have z1:=zC q8 1;have z2:=zC q8 2;simp at z0 z1 z2;have S8:=zH (HI.o.below b8);have CO:=zH (IH.o pt _ (dp+1) Wr w8 A1 B c1 d wk qs HO.o.2 HO.o.1 S8.o.wr (fun W hW=>HFX.o W (S8.o.bel.trans hW)) HWT.o.2 hq);clear q8 b8;go_upto_region 11 with fail;clear e0 e1 e2 hw8;go_upto_region 12 with(go_at_call 112;refine CO.o.mono ?_;rintro e w9⟨rfl,hr⟩;obtain⟨A9,c9,S9⟩:=S8.o.step hr);rw[<-HWT.o.1] at S9;have S9:=zH S9;clear hr CO S8 z0 z1 z2 HFX;go_wp2_with fail;go_roundw;case rel=>exact⟨k+1,A9,c9,by omega,by go_num,by rw[HWE.o];exact S9⟩
    case measure=>simp[intOf];omega
   have HF:Hid (WrT Wr A B d w qs (ws++[91] :: Lfc.Ord.wordss ps) A1 c1 wr):=zH (by
    have h1:=HI.o;rwa[List.take_of_length_le (by rw[HNL.o];omega)] at h1)
   have HLF:Hid ((ws++[91] :: Lfc.Ord.wordss ps).length<=900000000):=zH (by
    have h1:=wordss_le ps;have h3:=HL.o;simp only[Zq,List.length_cons];omega)
   have HWF:Hid (ws++[91] :: (Lfc.Ord.wordss ps++[[93]])=(ws++[91] :: Lfc.Ord.wordss ps)++[[93]]):=zH (by simp);generalize ws++[91] :: Lfc.Ord.wordss ps=wk at *;have CE:=zH (wadd_new HF.o.wr [[93]] (by have:=HLF.o;simp;omega));clear HI;go_wp2_with (go_at_call 50;refine CE.o.mono ?_;rintro e w9⟨rfl,hr⟩;obtain⟨A9,c9,S9⟩:=HF.o.step hr);have S9:=zH S9.toA;clear hr
   go_end0
   exact⟨rfl,by rw[HWF.o];exact S9.o⟩
  rw[if_neg h23] at hf;cases hf
theorem ordc_open{w:World}{t:Lfc.Ord}{v0 v1 v2:Value}(h:OrdC w t v0 v1 v2):∃k a D n g,v0=.int .i64 k∧v1=.int .i64 a∧v2=.slice D n g:=by
 obtain⟨k,a,ps⟩:=t;rw[OrdC] at h;obtain⟨rfl,rfl,A,c,rfl,_⟩:=h;exact⟨k,a,A,_,c,rfl,rfl,rfl⟩
theorem fords_lt{Wr:Nat}{w:World}{X:Option Addr}{l:List (List UInt8 × Lfc.Ord)}(h:∀W,Below Wr w W→FOrdsAt W X l)(hne:l≠[]):∀a,X=some a→a.block<Wr:=fun a ha=>by
 rcases Nat.lt_or_ge a.block Wr with h1 | h1
 ·exact h1
 obtain⟨W,hb,hW⟩:=spoil_below (w:=w) h1;obtain⟨b,o,e,_,hc⟩:=h W hb hne;obtain⟨v0,v1,v2,c0,_⟩:=hc 0 (List.length_pos_iff.2 hne);rw[ha] at e;cases e;rw[hW ⟨b,o+0*4,none⟩ rfl] at c0;cases c0
theorem fords_fix{Wr:Nat}{w:World}{X:Option Addr}{l:List (List UInt8 × Lfc.Ord)}(h:∀W,Below Wr w W→FOrdsAt W X l){k:Nat}(hk:k<l.length):∃b o kd a us D g,X=some ⟨b,o,none⟩∧∀W,Below Wr w W→W.cell? ⟨b,o+k*4,none⟩=some (S l[k].1)∧W.cell? ⟨b,o+k*4+1,none⟩=some (.int .i64 kd)∧W.cell? ⟨b,o+k*4+2,none⟩=some (.int .i64 a)∧W.cell? ⟨b,o+k*4+3,none⟩=some (.slice D us g)∧OrdV W l[k].2 (.agg #[.int .i64 kd,.int .i64 a,.slice D us g]):=by
 have hne:l≠[]:=by intro e;rw[e] at hk;simp at hk
 obtain⟨b,o,e,_,hc⟩:=h w (zB _ _) hne;obtain⟨v0,v1,v2,c0,_,c1,c2,c3,hT⟩:=hc k hk;obtain⟨kd,a,D,us,g,rfl,rfl,rfl⟩:=ordc_open hT;have hb:=fords_lt h hne _ e;refine⟨b,o,kd,a,us,D,g,e,fun W hW=>?_⟩;obtain⟨b',o',e',_,hc'⟩:=h W hW hne;rw[e] at e';cases e';obtain⟨u0,u1,u2,d0,_,d1,d2,d3,hT'⟩:=hc' k hk;rw[below_cell hW hb] at d1 d2 d3;rw[c1] at d1;cases d1;rw[c2] at d2;cases d2;rw[c3] at d3;cases d3;exact⟨(below_cell hW hb).trans c0,(below_cell hW hb).trans c1,(below_cell hW hb).trans c2,(below_cell hW hb).trans c3,_,_,_,rfl,hT'⟩
theorem fordsW_snoc(l:List (List UInt8 × Lfc.Ord))(b:List UInt8 × Lfc.Ord):fordsW (l++[b])=fordsW l++(b.1 :: b.2.words):=by simp[fordsW]
theorem fordsW_le:∀l:List (List UInt8 × Lfc.Ord),(∀x∈l,x.2.size≤1000)→(fordsW l).length≤2001*l.length
 |[],_=>by simp[fordsW]
 |a :: r,h=>by
  have h1:=words_le a.2;have h2:=fordsW_le r fun x hx=>h x (List.mem_cons_of_mem _ hx);have h3:=h a List.mem_cons_self;simp only[fordsW,List.flatMap_cons,Zq,List.length_cons] at h2 ⊢;omega
theorem worders_any{Wr:Nat}{w:World}{A B:Option Addr}{c d:Nat}{ws qs:List (List UInt8)}(h:WrI Wr w A c B d ws qs)(l:List (List UInt8 × Lfc.Ord))(X:Option Addr)(cx:Nat)(hx:∀W,Below Wr w W->FOrdsAt W X l)(hs:∀b∈l,b.2.size<=1000/\b.2.ofm 0=true)(hn:l.length<=100)(hl:ws.length<=2000000)(hq:qs.length<=1000000) :
  Calls Tryz.prog 111 #[.pointer (some ⟨Wr,0,none⟩),.slice X l.length cx] w fun e w'=>e=.returned (.tuple #[])/\WrA Wr A B d w (ws++fordsW l) qs w':=by
 have HX:=zH hx;have HS:=zH hs;have H0:Hid (WrT Wr A B d w qs (ws++fordsW (l.take 0)) A c w):=zH (by simpa[fordsW] using WrT.start h);obtain⟨n,hnl⟩:∃n,l.length=n:=⟨_,rfl⟩;have HNL:=zH hnl;rw[hnl] at hn ⊢;clear hx hs h hnl;go_enter Tryz.func111,Tryz.ntmps111;go_wp2_with fail;go_loopw [8] (fun i wr=>∃(k:Nat)(A':Option Addr)(c':Nat),k<=n/\i=zI k/\Hid (WrT Wr A B d w qs (ws++fordsW (l.take k)) A' c' wr)) (fun i _=>n-(intOf i).toNat);case atStart=>exact⟨0,A,c,by omega,rfl,H0⟩
 clear H0;obtain⟨k,A1,c1,hk,rfl,HI⟩:=hrel;by_cases hlt:k<n
 ·have hkl:k<l.length:=by rw[HNL.o];exact hlt
  obtain⟨b,o,kd,a,us,D,g,rfl,hfix⟩:=fords_fix HX.o hkl;obtain⟨e0,e1,e2,e3,_⟩:=hfix wr HI.o.bel;have HFX:=zH (fun W hW=>(hfix W hW).2.2.2.2);clear hfix;have hi0:=zP k;have hi1:(k:Int)<(n:Int):=by omega
  have HW:Hid (ws++fordsW (l.take (k+1))=(ws++fordsW (l.take k))++[l[k].1]++l[k].2.words/\(ws++fordsW (l.take k)).length<=3000000):=zH (by
   refine⟨by rw[Zm hkl,fordsW_snoc];simp,?_⟩;have h1:=fordsW_le (l.take k) fun x hx=>(HS.o x (List.mem_of_mem_take hx)).1;rw[Zq];have h2:(l.take k).length<=100:=(by rw[List.length_take];omega);omega)
  have HSZ:=zH (HS.o _ (Ze hkl));generalize hb1:l[k].1=bn at *;generalize hb2:l[k].2=bt at *;generalize hwt:ws++fordsW (l.take (k+1))=wt at *;have HWT:=zH hwt;clear hwt;generalize ws++fordsW (l.take k)=wk at *;have hwk:wk.length<=3000000:=HW.o.2;clear hb1 hb2;obtain⟨w6,hw6⟩:∃w6,wr.alloc (.cells #[S bn,zI kd,zI a,.slice D us g] 74)=w6:=⟨_,rfl⟩;have b6:=zG hw6;have q6:=zQ hw6;have Q6:=zH q6;have z0:=zC q6 0;simp at z0;have S6:=zH (HI.o.below b6);have CA:=zH (wadd_new S6.o.wr [bn] (by simp;omega));clear q6 b6;go_upto_region 3 with fail;clear e0 e1 e2 e3 hw6;go_upto_region 4 with(go_at_call 50;refine CA.o.mono ?_;rintro e w7⟨rfl,hr⟩;have q7:=S6.o.box Q6.o (by decide) (by decide) hr;obtain⟨A7,c7,S7⟩:=S6.o.step hr);have S7:=zH S7;have z1:=zC q7 1;have z2:=zC q7 2;have z3:=zC q7 3;simp at z1 z2 z3;have CO:=zH (worder_upto 1000 (by omega) bt _ 0 Wr w7 A7 B c7 d _ qs HSZ.o.1 HSZ.o.2 S7.o.wr (fun W hW=>HFX.o W (S7.o.bel.trans hW)) (by have:=HSZ.o.1;simp;omega) hq);clear hr CA z0 q7 S6 Q6;go_upto_region 5 with(go_at_call 112;refine CO.o.mono ?_;rintro e w8⟨rfl,hr⟩;obtain⟨A8,c8,S8⟩:=S7.o.step hr);rw[<-HW.o.1] at S8;have S8:=zH S8;clear hr CO z1 z2 z3 S7 HFX;go_wp2_with fail;go_roundw;case rel=>exact⟨k+1,A8,c8,by omega,by go_num,by rw[HWT.o];exact S8⟩
  case measure=>simp[intOf];omega
 have HF:Hid (WrA Wr A B d w (ws++fordsW l) qs wr):=zH (by
  have h1:=HI.o.toA;rwa[List.take_of_length_le (by rw[HNL.o];omega)] at h1)
 go_wp2_with fail
 go_end0
 exact⟨rfl,HF.o⟩
theorem wclaim_7{Wr:Nat}{w:World}{A B:Option Addr}{c d:Nat}{ws qs:List (List UInt8)}(h:WrI Wr w A c B d ws qs)(x:Itm)(s:IS)(hk:x.kind=7)(hv:∀W,Below Wr w W->ItV W x s)(hl:ws.length<=1000000)(hq:qs.length<=1000000) :
  Calls Tryz.prog 54 #[.pointer (some ⟨Wr,0,none⟩),.agg (itCells x s)] w fun e w'=>e=.returned (.tuple #[])/\WrA Wr A B d w (ws++x.words qs) qs w':=by
 have HV:=zH hv;have S0:=Wst.start h (itCells x s);obtain⟨wb,hwb⟩:∃wb,w.alloc (.cells (itCells x s) 42)=wb:=⟨_,rfl⟩;rw[hwb] at S0;have HWD:Hid (x.words qs=[[37,99,111,118,101,114,115],x.name]):=zH (by unfold Itm.words;simp[hk]);rw[HWD.o];have hlt:=h.lt;clear h hv HWD;obtain⟨kind,pos,name,type,value,⟨on,of,op⟩,som,params,blocks,fams,signs,orders,⟨lk,la,lp⟩,⟨rk,ra,rp⟩,rel,count⟩:=x;simp only at HV hk ⊢;subst hk;simp only[itCells,Lfc.Ord.k,Lfc.Ord.a,Lfc.Ord.ps] at S0 hwb ⊢;have S0:=zH S0;have hb0:=S0.o.box;have y0:=zC hb0 0;have y2:=zC hb0 2;simp at y0 y2;clear hb0;have CA:=zH (wadd_new S0.o.wr [[37,99,111,118,101,114,115],name] (by simp;omega));go_enter Tryz.func54,Tryz.ntmps54;go_upto_region 3 with fail;clear hwb;go_wp2_with (go_at_call 50;refine CA.o.mono ?_;rintro e w1⟨rfl,hr⟩;obtain⟨A1,c1,S1⟩:=S0.o.step hr);have S1:=zH S1;clear hr CA y0 y2;go_wp2_with fail
 go_end0
 exact⟨rfl,S1.o.toA⟩
theorem wclaim_8{Wr:Nat}{w:World}{A B:Option Addr}{c d:Nat}{ws qs:List (List UInt8)}(h:WrI Wr w A c B d ws qs)(x:Itm)(s:IS)(hk:x.kind=8)(hv:∀W,Below Wr w W->ItV W x s)(hl:ws.length<=1000000)(hq:qs.length<=1000000) :
  Calls Tryz.prog 54 #[.pointer (some ⟨Wr,0,none⟩),.agg (itCells x s)] w fun e w'=>e=.returned (.tuple #[])/\WrA Wr A B d w (ws++x.words qs) qs w':=by
 have HV:=zH hv;have S0:=Wst.start h (itCells x s);obtain⟨wb,hwb⟩:∃wb,w.alloc (.cells (itCells x s) 42)=wb:=⟨_,rfl⟩;rw[hwb] at S0;have HWD:Hid (x.words qs=[[37,117,110,105,113,117,101],x.name]):=zH (by unfold Itm.words;simp[hk]);rw[HWD.o];have hlt:=h.lt;clear h hv HWD;obtain⟨kind,pos,name,type,value,⟨on,of,op⟩,som,params,blocks,fams,signs,orders,⟨lk,la,lp⟩,⟨rk,ra,rp⟩,rel,count⟩:=x;simp only at HV hk ⊢;subst hk;simp only[itCells,Lfc.Ord.k,Lfc.Ord.a,Lfc.Ord.ps] at S0 hwb ⊢;have S0:=zH S0;have hb0:=S0.o.box;have y0:=zC hb0 0;have y2:=zC hb0 2;simp at y0 y2;clear hb0;have CA:=zH (wadd_new S0.o.wr [[37,117,110,105,113,117,101],name] (by simp;omega));go_enter Tryz.func54,Tryz.ntmps54;go_upto_region 5 with fail;clear hwb;go_wp2_with (go_at_call 50;refine CA.o.mono ?_;rintro e w1⟨rfl,hr⟩;obtain⟨A1,c1,S1⟩:=S0.o.step hr);have S1:=zH S1;clear hr CA y0 y2;go_wp2_with fail
 go_end0
 exact⟨rfl,S1.o.toA⟩
theorem wclaim_9{Wr:Nat}{w:World}{A B:Option Addr}{c d:Nat}{ws qs:List (List UInt8)}(h:WrI Wr w A c B d ws qs)(x:Itm)(s:IS)(hk:x.kind=9)(hv:∀W,Below Wr w W->ItV W x s)(hl:ws.length<=1000000)(hq:qs.length<=1000000) :
  Calls Tryz.prog 54 #[.pointer (some ⟨Wr,0,none⟩),.agg (itCells x s)] w fun e w'=>e=.returned (.tuple #[])/\WrA Wr A B d w (ws++x.words qs) qs w':=by
 have HV:=zH hv;have S0:=Wst.start h (itCells x s);obtain⟨wb,hwb⟩:∃wb,w.alloc (.cells (itCells x s) 42)=wb:=⟨_,rfl⟩;rw[hwb] at S0;have HWD:Hid (x.words qs=[[37,115,116,114,105,99,116],x.name]):=zH (by unfold Itm.words;simp[hk]);rw[HWD.o];have hlt:=h.lt;clear h hv HWD;obtain⟨kind,pos,name,type,value,⟨on,of,op⟩,som,params,blocks,fams,signs,orders,⟨lk,la,lp⟩,⟨rk,ra,rp⟩,rel,count⟩:=x;simp only at HV hk ⊢;subst hk;simp only[itCells,Lfc.Ord.k,Lfc.Ord.a,Lfc.Ord.ps] at S0 hwb ⊢;have S0:=zH S0;have hb0:=S0.o.box;have y0:=zC hb0 0;have y2:=zC hb0 2;simp at y0 y2;clear hb0;have CA:=zH (wadd_new S0.o.wr [[37,115,116,114,105,99,116],name] (by simp;omega));go_enter Tryz.func54,Tryz.ntmps54;go_upto_region 7 with fail;clear hwb;go_wp2_with (go_at_call 50;refine CA.o.mono ?_;rintro e w1⟨rfl,hr⟩;obtain⟨A1,c1,S1⟩:=S0.o.step hr);have S1:=zH S1;clear hr CA y0 y2;go_wp2_with fail
 go_end0
 exact⟨rfl,S1.o.toA⟩
theorem wclaim_10{Wr:Nat}{w:World}{A B:Option Addr}{c d:Nat}{ws qs:List (List UInt8)}(h:WrI Wr w A c B d ws qs)(x:Itm)(s:IS)(hk:x.kind=10)(hn:x.orders.length<=100)(hs:∀b∈x.orders,b.2.size<=1000/\b.2.ofm 0=true)(hv:∀W,Below Wr w W->ItV W x s)(hl:ws.length<=1000000)(hq:qs.length<=1000000) :
  Calls Tryz.prog 54 #[.pointer (some ⟨Wr,0,none⟩),.agg (itCells x s)] w fun e w'=>e=.returned (.tuple #[])/\WrA Wr A B d w (ws++x.words qs) qs w':=by
 have HV:=zH hv;have S0:=Wst.start h (itCells x s);obtain⟨wb,hwb⟩:∃wb,w.alloc (.cells (itCells x s) 42)=wb:=⟨_,rfl⟩;rw[hwb] at S0;have HWD:Hid (x.words qs=[[37,116,101,114,109,105,110,97,116,101,115]]++fordsW x.orders):=zH (by unfold Itm.words;simp[hk]);rw[HWD.o];have hlt:=h.lt;clear h hv HWD;obtain⟨kind,pos,name,type,value,⟨on,of,op⟩,som,params,blocks,fams,signs,orders,⟨lk,la,lp⟩,⟨rk,ra,rp⟩,rel,count⟩:=x;simp only at HV hk hn hs ⊢;subst hk;simp only[itCells,Lfc.Ord.k,Lfc.Ord.a,Lfc.Ord.ps] at S0 hwb ⊢;have S0:=zH S0;have hb0:=S0.o.box;have y0:=zC hb0 0;simp at y0;clear hb0;have CA:=zH (wadd_new S0.o.wr [[37,116,101,114,109,105,110,97,116,101,115]] (by simp;omega));have HS:=zH hs;clear hs;go_enter Tryz.func54,Tryz.ntmps54;go_upto_region 9 with fail;clear hwb;go_upto_region 10 with(go_at_call 50;refine CA.o.mono ?_;rintro e w1⟨rfl,hr⟩;obtain⟨A1,c1,S1⟩:=S0.o.step hr);have S1:=zH S1;clear hr CA y0;have hb1:=S1.o.box;have y13:=zC hb1 13;simp at y13;clear hb1;have CO:=zH (worders_any S1.o.wr orders s.od.1 s.od.2 (fun W hW=>(HV.o W (S1.o.bel.trans hW)).od.1) HS.o hn (by simp;omega) hq);go_wp2_with (go_at_call 111;refine CO.o.mono ?_;rintro e w2⟨rfl,hr⟩;obtain⟨A2,c2,S2⟩:=S1.o.step hr);have S2:=zH S2;clear hr CO y13;go_wp2_with fail
 go_end0
 exact⟨rfl,by simpa using S2.o.toA⟩
theorem wclaim_11{Wr:Nat}{w:World}{A B:Option Addr}{c d:Nat}{ws qs:List (List UInt8)}(h:WrI Wr w A c B d ws qs)(x:Itm)(s:IS)(hk:x.kind=11)(hn:x.orders.length<=100)(hs:∀b∈x.orders,b.2.size<=1000/\b.2.ofm 0=true)(hv:∀W,Below Wr w W->ItV W x s)(hl:ws.length<=1000000)(hq:qs.length<=1000000) :
  Calls Tryz.prog 54 #[.pointer (some ⟨Wr,0,none⟩),.agg (itCells x s)] w fun e w'=>e=.returned (.tuple #[])/\WrA Wr A B d w (ws++x.words qs) qs w':=by
 have HV:=zH hv;have S0:=Wst.start h (itCells x s);obtain⟨wb,hwb⟩:∃wb,w.alloc (.cells (itCells x s) 42)=wb:=⟨_,rfl⟩;rw[hwb] at S0;have HWD:Hid (x.words qs=[[37,116,111,116,97,108]]++fordsW x.orders):=zH (by unfold Itm.words;simp[hk]);rw[HWD.o];have hlt:=h.lt;clear h hv HWD;obtain⟨kind,pos,name,type,value,⟨on,of,op⟩,som,params,blocks,fams,signs,orders,⟨lk,la,lp⟩,⟨rk,ra,rp⟩,rel,count⟩:=x;simp only at HV hk hn hs ⊢;subst hk;simp only[itCells,Lfc.Ord.k,Lfc.Ord.a,Lfc.Ord.ps] at S0 hwb ⊢;have S0:=zH S0;have hb0:=S0.o.box;have y0:=zC hb0 0;simp at y0;clear hb0;have CA:=zH (wadd_new S0.o.wr [[37,116,111,116,97,108]] (by simp;omega));have HS:=zH hs;clear hs;go_enter Tryz.func54,Tryz.ntmps54;go_upto_region 12 with fail;clear hwb;go_upto_region 13 with(go_at_call 50;refine CA.o.mono ?_;rintro e w1⟨rfl,hr⟩;obtain⟨A1,c1,S1⟩:=S0.o.step hr);have S1:=zH S1;clear hr CA y0;have hb1:=S1.o.box;have y13:=zC hb1 13;simp at y13;clear hb1;have CO:=zH (worders_any S1.o.wr orders s.od.1 s.od.2 (fun W hW=>(HV.o W (S1.o.bel.trans hW)).od.1) HS.o hn (by simp;omega) hq);go_wp2_with (go_at_call 111;refine CO.o.mono ?_;rintro e w2⟨rfl,hr⟩;obtain⟨A2,c2,S2⟩:=S1.o.step hr);have S2:=zH S2;clear hr CO y13;go_wp2_with fail
 go_end0
 exact⟨rfl,by simpa using S2.o.toA⟩
theorem wclaim_12{Wr:Nat}{w:World}{A B:Option Addr}{c d:Nat}{ws qs:List (List UInt8)}(h:WrI Wr w A c B d ws qs)(x:Itm)(s:IS)(hk:x.kind=12)(hL:x.left.size<=1000/\x.left.ofm 0=true)(hR:x.right.size<=1000/\x.right.ofm 0=true)(hr1:1<=x.rel)(hr3:x.rel<=3)(hv:∀W,Below Wr w W->ItV W x s)(hl:ws.length<=1000000)(hq:qs.length<=1000000) :
  Calls Tryz.prog 54 #[.pointer (some ⟨Wr,0,none⟩),.agg (itCells x s)] w fun e w'=>e=.returned (.tuple #[])/\WrA Wr A B d w (ws++x.words qs) qs w':=by
 have HV:=zH hv;have S0:=Wst.start h (itCells x s);obtain⟨wb,hwb⟩:∃wb,w.alloc (.cells (itCells x s) 42)=wb:=⟨_,rfl⟩;rw[hwb] at S0;have HWD:Hid (x.words qs=[[37,114,101,100,117,99,101,115],x.name]++x.left.words++[relW x.rel]++x.right.words):=zH (by unfold Itm.words;simp[hk]);rw[HWD.o];have hlt:=h.lt;clear h hv HWD;obtain⟨kind,pos,name,type,value,⟨on,of,op⟩,som,params,blocks,fams,signs,orders,⟨lk,la,lp⟩,⟨rk,ra,rp⟩,rel,count⟩:=x;simp only at HV hk hL hR hr1 hr3 ⊢;subst hk;simp only[itCells,Lfc.Ord.k,Lfc.Ord.a,Lfc.Ord.ps] at S0 hwb ⊢;have S0:=zH S0;have HLs:=zH hL;have HRs:=zH hR;have hrel:rel=1\/rel=2\/rel=3:=by omega
 clear hL hR hr1 hr3;rcases hrel with rfl | rfl | rfl;all_goals
  have hb0:=S0.o.box;have y0:=zC hb0 0;have y2:=zC hb0 2;simp at y0 y2;clear hb0;have CA:=zH (wadd_new S0.o.wr [[37,114,101,100,117,99,101,115],name] (by simp;omega));go_enter Tryz.func54,Tryz.ntmps54;go_upto_region 15 with fail;clear hwb;go_upto_region 16 with(go_at_call 50;refine CA.o.mono ?_;rintro e w1⟨rfl,hr⟩;obtain⟨A1,c1,S1⟩:=S0.o.step hr);have S1:=zH S1;clear hr CA y0 y2;have hb1:=S1.o.box;have y14:=zC hb1 14;have y15:=zC hb1 15;have y16:=zC hb1 16;simp at y14 y15 y16;clear hb1;have CL:=zH (worder_upto 1000 (by omega) (.node lk la lp) _ 0 Wr _ _ B _ d _ qs HLs.o.1 HLs.o.2 S1.o.wr (fun W hW=>OrdV.mk (HV.o W (S1.o.bel.trans hW)).le.2 (HV.o W (S1.o.bel.trans hW)).le.1) (by have:=HLs.o.1;simp;omega) hq);go_upto_region 17 with(go_at_call 112;refine CL.o.mono ?_;rintro e w2⟨rfl,hr⟩;obtain⟨A2,c2,S2⟩:=S1.o.step hr);have S2:=zH S2;clear hr CL y14 y15 y16;have hb2:=S2.o.box;have y20:=zC hb2 20;simp at y20;clear hb2;obtain⟨wn,hwn⟩:∃wn,w2.alloc (.cells #[S [],S [60],S [60,61],S [61]] 9)=wn:=⟨_,rfl⟩;have bn:=zG hwn;have qn:=zQ hwn
 have yr:=zC qn 1;have y20n:=(bn.cell (p:=⟨w.heap.size,20,none⟩) (lt_of_cell' y20)).trans y20;simp at yr;have SN:=zH (show Wst Wr A B d w w.heap.size _ qs _ A2 c2 wn from⟨S2.o.wr.below bn,S2.o.kp.trans (Kp.of_below bn),(bn.block _ (zL S2.o.box)).trans S2.o.box,S2.o.bel.trans (bn.mono (Nat.le_of_lt S2.o.wr.lt))⟩);have LW:Hid ((Lfc.Ord.node lk la lp).words.length<=2000):=zH (by have h1:=words_le (.node lk la lp);have h2:=HLs.o.1;omega);have CR:=zH (wadd_new SN.o.wr [[60]] (by have:=LW.o;simp at this ⊢;omega))
 rotate_left
 have yr:=zC qn 2;have y20n:=(bn.cell (p:=⟨w.heap.size,20,none⟩) (lt_of_cell' y20)).trans y20;simp at yr;have SN:=zH (show Wst Wr A B d w w.heap.size _ qs _ A2 c2 wn from⟨S2.o.wr.below bn,S2.o.kp.trans (Kp.of_below bn),(bn.block _ (zL S2.o.box)).trans S2.o.box,S2.o.bel.trans (bn.mono (Nat.le_of_lt S2.o.wr.lt))⟩);have LW:Hid ((Lfc.Ord.node lk la lp).words.length<=2000):=zH (by have h1:=words_le (.node lk la lp);have h2:=HLs.o.1;omega);have CR:=zH (wadd_new SN.o.wr [[60,61]] (by have:=LW.o;simp at this ⊢;omega))
 rotate_left
 have yr:=zC qn 3;have y20n:=(bn.cell (p:=⟨w.heap.size,20,none⟩) (lt_of_cell' y20)).trans y20;simp at yr;have SN:=zH (show Wst Wr A B d w w.heap.size _ qs _ A2 c2 wn from⟨S2.o.wr.below bn,S2.o.kp.trans (Kp.of_below bn),(bn.block _ (zL S2.o.box)).trans S2.o.box,S2.o.bel.trans (bn.mono (Nat.le_of_lt S2.o.wr.lt))⟩);have LW:Hid ((Lfc.Ord.node lk la lp).words.length<=2000):=zH (by have h1:=words_le (.node lk la lp);have h2:=HLs.o.1;omega);have CR:=zH (wadd_new SN.o.wr [[61]] (by have:=LW.o;simp at this ⊢;omega));all_goals
  as_aux_lemma =>
   clear bn qn;go_upto_region 18 with(go_at_call 50;refine CR.o.mono ?_;rintro e w3⟨rfl,hr⟩;obtain⟨A3,c3,S3⟩:=SN.o.step hr);have S3:=zH S3;clear hr CR y20 y20n yr hwn S2 SN;have hb3:=S3.o.box;have y17:=zC hb3 17;have y18:=zC hb3 18;have y19:=zC hb3 19;simp at y17 y18 y19;clear hb3;have CM:=zH (worder_upto 1000 (by omega) (.node rk ra rp) _ 0 Wr _ _ B _ d _ qs HRs.o.1 HRs.o.2 S3.o.wr (fun W hW=>OrdV.mk (HV.o W (S3.o.bel.trans hW)).ri.2 (HV.o W (S3.o.bel.trans hW)).ri.1) (by have:=HRs.o.1;have:=LW.o;simp at this ⊢;omega) hq);go_wp2_with (go_at_call 112;refine CM.o.mono ?_;rintro e w4⟨rfl,hr⟩;obtain⟨A4,c4,S4⟩:=S3.o.step hr);have S4:=zH S4;clear hr CM y17 y18 y19;go_wp2_with fail
   go_end0
   exact⟨rfl,by simpa[relW] using S4.o.toA⟩
theorem below_grow(w:World)(k:Nat)(os:Array Obj):Below w.heap.size w (Go.Sort.grow (w.drewN k) os) :=
 ⟨rfl,rfl,rfl,by simp[Go.Sort.grow,World.drewN],fun b hb=>by simp only[Go.Sort.grow,World.drewN];rw[Array.getElem?_append_left hb]⟩
def PowAt (w : World) : Prop := Lib.TabIs Tryz.prog w "internal/strconv.uint64pow10" .u64 Lib.pow10Tab
theorem pow_small : ∃ g, Tryz.prog.globalNamed "internal/strconv.uint64pow10" = some g ∧ g < 4 := by
 have h : (Tryz.prog.globalNamed "internal/strconv.uint64pow10").map (fun g => decide (g < 4)) = some true := by kernel_rfl
 cases e : Tryz.prog.globalNamed "internal/strconv.uint64pow10" with
 |none=>rw[e] at h;cases h
 |some g=>rw[e] at h;exact⟨g,rfl,of_decide_eq_true (zO h)⟩
theorem PowAt.below{w W:World}{lo:Nat}(h:PowAt w)(hb:Below lo w W)(hlo:4≤lo):PowAt W:=by
 obtain⟨g,hg,hg6⟩:=pow_small;unfold PowAt Lib.TabIs World.var? at h ⊢;rw[hg] at h ⊢;simp only[Option.bind_some] at h ⊢;rw[hb.block g (by omega)];exact h
theorem itoa_any(n:Nat)(hn:n≤1000)(w:World)(h:PowAt w):Calls Tryz.prog 52 #[.int .i64 (n:Int)] w fun e w'=>e=.returned (S (dec n))∧Below w.heap.size w w':=by
 refine(Tryz.strconv_Itoa (n:Int) (by omega) (by omega) w h).mono ?_;rintro e w'⟨rfl,k,os,rfl⟩;exact⟨by unfold Lib.itoa;rw[if_neg (by omega)];rfl,below_grow w k os⟩
theorem Wst.below{Wr:Nat}{A B:Option Addr}{d:Nat}{w:World}{K:Nat}{cs:Array Value}{qs ws:List (List UInt8)}{A1:Option Addr}{c1:Nat}{W W':World}(h:Wst Wr A B d w K cs qs ws A1 c1 W)(hb:Below W.heap.size W W'):Wst Wr A B d w K cs qs ws A1 c1 W' :=
 ⟨h.wr.below hb,h.kp.trans (Kp.of_below hb),(hb.block _ (zL h.box)).trans h.box,h.bel.trans (hb.mono (Nat.le_of_lt h.wr.lt))⟩
theorem wclaim_13{Wr:Nat}{w:World}{A B:Option Addr}{c d:Nat}{ws qs:List (List UInt8)}(h:WrI Wr w A c B d ws qs)(x:Itm)(s:IS)(hk:x.kind=13)(hlen:x.type.length=1)(hsz:∀t∈x.type,t.size<=1000000)(h0:0<=x.count)(h1:x.count<=1000)(hpow:∀W,Below Wr w W->PowAt W)(hv:∀W,Below Wr w W->ItV W x s)(hl:ws.length<=1000000)(hq:qs.length<=1000000) :
  Calls Tryz.prog 54 #[.pointer (some ⟨Wr,0,none⟩),.agg (itCells x s)] w fun e w'=>e=.returned (.tuple #[])/\WrA Wr A B d w (ws++x.words qs) qs w':=by
 have HV:=zH hv;have S0:=Wst.start h (itCells x s);obtain⟨wb,hwb⟩:∃wb,w.alloc (.cells (itCells x s) 42)=wb:=⟨_,rfl⟩;rw[hwb] at S0;have HWD:Hid (x.words qs=[37,113,117,101,114,121] :: dec x.count.toNat :: Itm.words.optW2 qs x.type):=zH (by unfold Itm.words;simp[hk]);rw[HWD.o];have hlt:=h.lt;clear h hv HWD;obtain⟨kind,pos,name,type,value,⟨on,of,op⟩,som,params,blocks,fams,signs,orders,⟨lk,la,lp⟩,⟨rk,ra,rp⟩,rel,count⟩:=x;simp only at HV hk hlen hsz h0 h1 ⊢;subst hk;simp only[itCells,Lfc.Ord.k,Lfc.Ord.a,Lfc.Ord.ps] at S0 hwb ⊢;have S0:=zH S0;obtain⟨cn,rfl⟩:=Int.eq_ofNat_of_zero_le h0;obtain⟨t,rfl⟩:=List.length_eq_one_iff.1 hlen;simp only[List.length_cons,List.length_nil,Nat.zero_add] at S0 hwb ⊢;have HSZ:=zH (hsz t List.mem_cons_self);have HP:=zH hpow;have HR:Hid (ws++([37,113,117,101,114,121] :: dec (Int.toNat (cn:Int)) :: Itm.words.optW2 qs [t])=(ws++[[37,113,117,101,114,121],dec cn])++[t.fmt qs]):=zH (by simp[Itm.words.optW2]);rw[HR.o];have CI:=zH (itoa_any cn (by omega) wb (HP.o wb S0.o.bel));have CA:=zH (fun W (hb:zb wb W)=>wadd_new (S0.o.below hb).wr [[37,113,117,101,114,121],dec cn] (by simp;omega));clear hpow hsz h0 hlen;have hb0:=S0.o.box;have y0:=zC hb0 0;have y21:=zC hb0 21;simp at y0 y21;clear hb0;go_enter Tryz.func54,Tryz.ntmps54;go_upto_region 20 with fail;clear hwb;go_upto_region 21 with(first | (go_at_call 52;(with_reducible refine CI.o.mono ?_);rintro e w1⟨rfl,hb1⟩;have S1:=zH (S0.o.below hb1);have CA1:=zH (CA.o _ hb1)) | (go_at_call 50;refine CA1.o.mono ?_;rintro e w2⟨rfl,hr⟩;obtain⟨A2,c2,S2⟩:=S1.o.step hr));have S2:=zH S2;clear hr CA CA1 CI hb1 S1 y0 y21;have hb2:=S2.o.box;have y3:=zC hb2 3;simp at y3;clear hb2;obtain⟨b1,o1,k1,n1,p1,us1,D1,g1,hA1,ht1,d0,d1,d2,d3,hT1⟩:=trees_head (HV.o _ S2.o.bel).ty.1;rw[hA1] at y3;have CT:=zH (wtree_any S2.o.wr _ _ hT1 HSZ.o (by simp;omega) (by omega));clear ht1 hT1;go_wp2_with (go_at_call 51;refine CT.o.mono ?_;rintro e w3⟨rfl,hr⟩;obtain⟨A3,c3,S3⟩:=S2.o.step hr);have S3:=zH S3;clear hr CT y3 d0 d1 d2 d3;go_wp2_with fail
 go_end0
 exact⟨rfl,S3.o.toA⟩
end Go.Proofs.YthajalgkjonaaaaGreatDoor
