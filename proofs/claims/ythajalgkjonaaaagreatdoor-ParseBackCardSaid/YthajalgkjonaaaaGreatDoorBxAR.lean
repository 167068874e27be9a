/- Parts of the proof that no input makes the law false: PaWe, PaWo, RawTextP, PaLex, PaExp. -/
import Derived.Test.YthajalgkjonaaaaGreatDoorBxAQ
set_option linter.unusedVariables false
set_option linter.unusedSimpArgs false
set_option maxRecDepth 100000
set_option maxHeartbeats 32000000
namespace Go.Proofs.YthajalgkjonaaaaGreatDoor
open Go.RowKit _root_.Lfc
theorem strs_fix{Wr:Nat}{w:World}{X:Option Addr}{l:List (List UInt8)}(h:∀W,Below Wr w W→StrsAt W X l){k:Nat}(hk:k<l.length):∃b o,X=some ⟨b,o,none⟩∧∀W,Below Wr w W→W.cell? ⟨b,o+k,none⟩=some (S l[k]):=by
 have hne:l≠[]:=by intro e;rw[e] at hk;simp at hk
 obtain⟨b,o,e,_,_⟩:=h w (zB _ _) hne;refine⟨b,o,e,fun W hW=>?_⟩;obtain⟨b',o',e',_,hc⟩:=h W hW hne;rw[e] at e';cases e';exact hc k hk
theorem nums_fix{Wr:Nat}{w:World}{X:Option Addr}{l:List Int}(h:∀W,Below Wr w W→NumsAt W X l){k:Nat}(hk:k<l.length):∃b o,X=some ⟨b,o,none⟩∧∀W,Below Wr w W→W.cell? ⟨b,o+k,none⟩=some (.int .i64 l[k]):=by
 have hne:l≠[]:=by intro e;rw[e] at hk;simp at hk
 obtain⟨b,o,e,_,_⟩:=h w (zB _ _) hne;refine⟨b,o,e,fun W hW=>?_⟩;obtain⟨b',o',e',_,hc⟩:=h W hW hne;rw[e] at e';cases e';exact hc k hk
theorem barsW_snoc:∀(l:List (List UInt8))(b:List UInt8),l≠[]→barsW (l++[b])=barsW l++[[124],b]
 |[],_,h=>absurd rfl h
 |[a],b,_=>rfl
 |a :: c :: r,b,_=>by
  have h1:=barsW_snoc (c :: r) b (by simp);have e1:barsW (a :: c :: (r++[b]))=a :: [124] :: barsW (c :: (r++[b])):=by rw[barsW];intro e;cases e
  have e2:barsW (a :: c :: r)=a :: [124] :: barsW (c :: r):=by rw[barsW];intro e;cases e
  show barsW (a :: c :: (r++[b]))=_;rw[e1,e2,show c :: (r++[b])=c :: r++[b] from rfl,h1];rfl
theorem witem_claim{Wr:Nat}{w:World}{A B:Option Addr}{c d:Nat}{ws qs:List (List UInt8)}(h:WrI Wr w A c B d ws qs)(x:Itm)(s:IS)(hk:6<x.kind)(rs:List (List UInt8))
  (hc:∀W,WrI Wr W A c B d ws qs->Below Wr w W->Calls Tryz.prog 54 #[.pointer (some ⟨Wr,0,none⟩),.agg (itCells x s)] W fun e w'=>e=.returned (.tuple #[])/\WrA Wr A B d W (ws++rs) qs w') :
  Calls Tryz.prog 27 #[.pointer (some ⟨Wr,0,none⟩),.agg (itCells x s)] w fun e w'=>e=.returned (.tuple #[])/\WrA Wr A B d w (ws++rs) qs w':=by
 have S0:=Wst.start h (itCells x s);obtain⟨wb,hwb⟩:∃wb,w.alloc (.cells (itCells x s) 42)=wb:=⟨_,rfl⟩;rw[hwb] at S0;have CC:=zH (hc wb S0.wr S0.bel);have KP:=zH S0.kp;have hld:=it_load S0.box rfl;have hlt:=h.lt;have y0:=zC S0.box 0;have hk1:(x.kind == 1)=false:=by simpa using fun e:x.kind=1=>by omega
 have hk2:(x.kind == 2)=false:=by simpa using fun e:x.kind=2=>by omega
 have hk3:(x.kind == 3)=false:=by simpa using fun e:x.kind=3=>by omega
 have hk4:(x.kind == 4)=false:=by simpa using fun e:x.kind=4=>by omega
 have hk5:(x.kind == 5)=false:=by simpa using fun e:x.kind=5=>by omega
 have hk6:(x.kind == 6)=false:=by simpa using fun e:x.kind=6=>by omega
 simp only[itCells,List.getElem?_toArray,List.getElem?_cons_zero] at y0;clear hc h S0;obtain⟨kind,pos,name,type,value,⟨on,of,op⟩,som,params,blocks,fams,signs,orders,⟨lk,la,lp⟩,⟨rk,ra,rp⟩,rel,count⟩:=x;simp only at hk hk1 hk2 hk3 hk4 hk5 hk6 y0;simp only[itCells,Lfc.Ord.k,Lfc.Ord.a,Lfc.Ord.ps] at hwb hld CC ⊢;clear hk;go_enter Tryz.func27,Tryz.ntmps27;go_upto_region 2 with fail;clear hwb;go_wp2_with (first | (refine wpList_it (by rfl) (by rfl) (by rfl) hld ?_) | (go_at_call 54;refine CC.o.mono ?_;rintro e w1⟨rfl,hr⟩));have HR:=zH (WrA.then KP.o hr);clear hr;go_wp2_with fail
 go_end0
 exact⟨rfl,HR.o⟩
theorem bndsW_len5(q:List (List UInt8))(l:List Bnd):(bndsW q l).length=5*l.length:=by
 induction l with
 |nil=>rfl
 |cons a r ih=>simp only[bndsW,List.flatMap_cons,Zq,List.length_cons,List.length_nil] at ih ⊢;omega
theorem witem_4{Wr:Nat}{w:World}{A B:Option Addr}{c d:Nat}{ws qs:List (List UInt8)}(h:WrI Wr w A c B d ws qs)(x:Itm)(s:IS)(hk:x.kind=4)(hso:x.som.length<=100)(hpa:x.params.length<=100)(hs1:∀b∈x.som,b.2.size<=1000000)(hs2:∀b∈x.params,b.2.size<=1000000)(hv:∀W,Below Wr w W->ItV W x s)(hl:ws.length<=1000000)(hq:qs.length<=1000000) :
  Calls Tryz.prog 27 #[.pointer (some ⟨Wr,0,none⟩),.agg (itCells x s)] w fun e w'=>e=.returned (.tuple #[])/\WrA Wr A B d w (ws++x.words qs) qs w':=by
 have HV:=zH hv;have S0:=Wst.start h (itCells x s);obtain⟨wb,hwb⟩:∃wb,w.alloc (.cells (itCells x s) 42)=wb:=⟨_,rfl⟩;rw[hwb] at S0;have HWD:Hid (x.words qs=[[37,98,108,111,99,107],x.name,[58]]++(if x.som.length=0 then [] else [115,111,109,101] :: bndsW qs x.som)++[98,108,111,99,107] :: bndsW qs x.params):=zH (by unfold Itm.words;simp[hk]);rw[HWD.o];have hlt:=h.lt;clear h hv HWD;obtain⟨kind,pos,name,type,value,⟨on,of,op⟩,som,params,blocks,fams,signs,orders,⟨lk,la,lp⟩,⟨rk,ra,rp⟩,rel,count⟩:=x;simp only at HV hk hso hpa hs1 hs2 ⊢;subst hk;simp only[itCells,Lfc.Ord.k,Lfc.Ord.a,Lfc.Ord.ps] at S0 hwb ⊢;have HPA:=zH hs2;have HSO:=zH hs1;clear hs1 hs2;rcases som with _ | ⟨b0,r0⟩;all_goals simp only[List.length_nil,List.length_cons,if_true,Nat.add_eq_zero_iff,Nat.one_ne_zero,and_false,if_false] at S0 hwb hso ⊢
 all_goals
  have S0:=zH S0;have hb0:=S0.o.box;have y0:=zC hb0 0;have y2:=zC hb0 2;simp at y0 y2;clear hb0;have CA:=zH (wadd_new S0.o.wr [[37,98,108,111,99,107],name,[58]] (by simp;omega));go_enter Tryz.func27,Tryz.ntmps27;go_upto_region 16 with fail;clear hwb;go_upto_region 17 with(go_at_call 50;refine CA.o.mono ?_;rintro e w1⟨rfl,hr⟩;obtain⟨A1,c1,S1⟩:=S0.o.step hr);have S1:=zH S1
 ·as_aux_lemma =>
  clear hr CA y0 y2;have hb1:=S1.o.box;have y8:=zC hb1 8;simp at y8;clear hb1;go_upto_region 20 with fail;clear y8;have CD:=zH (wadd_new S1.o.wr [[98,108,111,99,107]] (by simp;omega));go_upto_region 21 with(go_at_call 50;refine CD.o.mono ?_;rintro e w2⟨rfl,hr⟩;obtain⟨A2,c2,S2⟩:=S1.o.step hr);have S2:=zH S2;clear hr CD;have hb2:=S2.o.box;have y9:=zC hb2 9;simp at y9;clear hb2;have CE:=zH (wbinders_any S2.o.wr params s.pa.1 s.pa.2 (fun W hW=>(HV.o W (S2.o.bel.trans hW)).pa.1) HPA.o (by omega) (by simp;omega) hq);go_wp2_with (go_at_call 53;refine CE.o.mono ?_;rintro e w3⟨rfl,hr⟩;obtain⟨A3,c3,S3⟩:=S2.o.step hr);have S3:=zH S3;clear hr CE y9;go_wp2_with fail
  go_end0
  exact⟨rfl,by simpa using S3.o.toA⟩
 as_aux_lemma =>
 have hb1:=S1.o.box;have y8:=zC hb1 8;simp at y8;clear hb1;go_upto_region 18 with fail;clear y8;clear hr CA y0 y2;have CB:=zH (wadd_new S1.o.wr [[115,111,109,101]] (by simp;omega));go_upto_region 19 with(go_at_call 50;refine CB.o.mono ?_;rintro e w2⟨rfl,hr⟩;obtain⟨A2,c2,S2⟩:=S1.o.step hr);have S2:=zH S2;clear hr CB;have hb2:=S2.o.box;have y8:=zC hb2 8;simp at y8;clear hb2;have CC:=zH (wbinders_any S2.o.wr (b0 :: r0) s.so.1 s.so.2 (fun W hW=>(HV.o W (S2.o.bel.trans hW)).so.1) HSO.o (by simp;omega) (by simp;omega) hq);go_upto_region 20 with(go_at_call 53;refine CC.o.mono ?_;rintro e w3⟨rfl,hr⟩;obtain⟨A3,c3,S3⟩:=S2.o.step hr);have S3:=zH S3;clear hr CC y8;have LS:Hid ((bndsW qs (b0 :: r0)).length<=5000):=zH (by rw[bndsW_len5];simp;omega);have CD:=zH (wadd_new S3.o.wr [[98,108,111,99,107]] (by have:=LS.o;simp at this ⊢;omega));go_upto_region 21 with(go_at_call 50;refine CD.o.mono ?_;rintro e w4⟨rfl,hr⟩;obtain⟨A4,c4,S4⟩:=S3.o.step hr);have S4:=zH S4;clear hr CD;have hb4:=S4.o.box;have y9:=zC hb4 9;simp at y9;clear hb4;have CE:=zH (wbinders_any S4.o.wr params s.pa.1 s.pa.2 (fun W hW=>(HV.o W (S4.o.bel.trans hW)).pa.1) HPA.o (by omega) (by have:=LS.o;simp at this ⊢;omega) hq);go_wp2_with (go_at_call 53;refine CE.o.mono ?_;rintro e w5⟨rfl,hr⟩;obtain⟨A5,c5,S5⟩:=S4.o.step hr);have S5:=zH S5;clear hr CE y9;go_wp2_with fail
 go_end0
 exact⟨rfl,by simpa using S5.o.toA⟩
theorem barsW_le:∀l:List (List UInt8),(barsW l).length≤2*l.length
 |[]=>by simp[barsW]
 |[a]=>by simp[barsW]
 |a :: c :: r=>by
  have:=barsW_le (c :: r);rw[barsW]
  ·simp only[List.length_cons] at this ⊢;omega
  intro e;cases e
theorem witem_5{Wr:Nat}{w:World}{A B:Option Addr}{c d:Nat}{ws qs:List (List UInt8)}(h:WrI Wr w A c B d ws qs)(x:Itm)(s:IS)(hk:x.kind=5)(hbl:x.blocks.length<=100)(hfa:x.fams.length<=100)(hv:∀W,Below Wr w W->ItV W x s)(hl:ws.length<=1000000)(hq:qs.length<=1000000) :
  Calls Tryz.prog 27 #[.pointer (some ⟨Wr,0,none⟩),.agg (itCells x s)] w fun e w'=>e=.returned (.tuple #[])/\WrA Wr A B d w (ws++x.words qs) qs w':=by
 have HV:=zH hv;have S0:=Wst.start h (itCells x s);obtain⟨wb,hwb⟩:∃wb,w.alloc (.cells (itCells x s) 42)=wb:=⟨_,rfl⟩;rw[hwb] at S0;have HWD:Hid (x.words qs=[[37,119,111,114,108,100,115],[40]]++barsW x.blocks++[41] :: x.fams):=zH (by unfold Itm.words;simp[hk]);rw[HWD.o];have hlt:=h.lt;clear h hv HWD;obtain⟨kind,pos,name,type,value,⟨on,of,op⟩,som,params,blocks,fams,signs,orders,⟨lk,la,lp⟩,⟨rk,ra,rp⟩,rel,count⟩:=x;simp only at HV hk hbl hfa ⊢;subst hk;simp only[itCells,Lfc.Ord.k,Lfc.Ord.a,Lfc.Ord.ps] at S0 hwb ⊢;have HBL:=zH (fun W hW=>(HV.o W hW).bl.1);generalize s.bl.1=X at S0 hwb HBL ⊢;obtain⟨n,hn⟩:∃n,blocks.length=n:=⟨_,rfl⟩;have HNL:=zH hn;rw[hn] at hbl S0 hwb ⊢;clear hn;have S0:=zH S0;have hb0:=S0.o.box;have y0:=zC hb0 0;simp at y0;clear hb0;have CA:=zH (wadd_new S0.o.wr [[37,119,111,114,108,100,115],[40]] (by simp;omega));go_enter Tryz.func27,Tryz.ntmps27;go_upto_region 23 with fail;clear hwb;go_upto_region 24 with(go_at_call 50;refine CA.o.mono ?_;rintro e w1⟨rfl,hr⟩;obtain⟨A1,c1,S1⟩:=S0.o.step hr);have S1:=zH S1;clear hr CA y0;have hb1:=S1.o.box;have y10:=zC hb1 10;simp at y10;clear hb1;have S1:Hid (Wst Wr A B d w w.heap.size #[zI 5,zI (pos:Int),S name,.slice s.ty.1 type.length s.ty.2,.slice s.va.1 value.length s.va.2,S on,zI of,zI op,.slice s.so.1 som.length s.so.2,.slice s.pa.1 params.length s.pa.2,.slice X n s.bl.2,.slice s.fa.1 fams.length s.fa.2,.slice s.si.1 signs.length s.si.2,.slice s.od.1 orders.length s.od.2,zI lk,zI la,.slice s.le.1 lp.length s.le.2,zI rk,zI ra,.slice s.ri.1 rp.length s.ri.2,zI rel,zI count] qs (ws++[[37,119,111,114,108,100,115],[40]]++barsW (blocks.take 0)) A1 c1 w1):=zH (by simpa[barsW] using S1.o);go_wp2_with fail;go_loopw [110] (fun i wr=>∃(k:Nat)(A':Option Addr)(c':Nat),k<=n/\i=zI k/\Hid (Wst Wr A B d w w.heap.size #[zI 5,zI (pos:Int),S name,.slice s.ty.1 type.length s.ty.2,.slice s.va.1 value.length s.va.2,S on,zI of,zI op,.slice s.so.1 som.length s.so.2,.slice s.pa.1 params.length s.pa.2,.slice X n s.bl.2,.slice s.fa.1 fams.length s.fa.2,.slice s.si.1 signs.length s.si.2,.slice s.od.1 orders.length s.od.2,zI lk,zI la,.slice s.le.1 lp.length s.le.2,zI rk,zI ra,.slice s.ri.1 rp.length s.ri.2,zI rel,zI count] qs (ws++[[37,119,111,114,108,100,115],[40]]++barsW (blocks.take k)) A' c' wr)) (fun i _=>n-(intOf i).toNat);case atStart=>exact⟨0,A1,c1,by omega,rfl,S1⟩
 clear S1 y10;obtain⟨k,A2,c2,hk,rfl,HI⟩:=hrel;by_cases hlt:k<n
 ·have hkl:k<blocks.length:=by rw[HNL.o];exact hlt
  obtain⟨b,o,rfl,hfix⟩:=strs_fix HBL.o hkl;have e0:=hfix wr HI.o.bel;clear hfix;have hi0:=zP k;have hi1:(k:Int)<(n:Int):=by omega
  have HW:Hid (((ws++[[37,119,111,114,108,100,115],[40]]++barsW (blocks.take (k+1)))=if k=0 then(ws++[[37,119,111,114,108,100,115],[40]]++barsW (blocks.take k))++[blocks[k]] else(ws++[[37,119,111,114,108,100,115],[40]]++barsW (blocks.take k))++[[124]]++[blocks[k]])/\(ws++[[37,119,111,114,108,100,115],[40]]++barsW (blocks.take k)).length<=2000000):=zH (by
   have hlk:(blocks.take k).length=k:=(by rw[List.length_take];omega);refine⟨?_,by have:=barsW_le (blocks.take k);rw[hlk] at this;simp;omega⟩;rw[Zm hkl];by_cases hk0:k=0
   ·rw[if_pos hk0];subst hk0;simp[barsW]
   rw[if_neg hk0,barsW_snoc _ _ (by intro e;rw[e] at hlk;simp at hlk;omega)];simp)
  generalize hbn:blocks[k]=bn at *;generalize hwt:(ws++[[37,119,111,114,108,100,115],[40]]++barsW (blocks.take (k+1)))=wt at *;have HWT:=zH hwt;generalize (ws++[[37,119,111,114,108,100,115],[40]]++barsW (blocks.take k))=wk at *;have hwk:wk.length<=2000000:=HW.o.2;clear hbn hwt;by_cases hk0:k=0
  ·have hd:decide ((k:Int)>0)=false:=(by simpa using hk0);have hd2:decide ((0:Int)<(k:Int))=false:=hd;have hd3:decide (0<k)=false:=(by simpa using hk0);have HE:Hid (wt=wk++[bn]):=zH (by have:=HW.o.1;rwa[if_pos hk0] at this);clear hk0;have CB:=zH (wadd_new HI.o.wr [bn] (by simp;omega));go_upto_region 30 with(go_at_call 50;refine CB.o.mono ?_;rintro e w3⟨rfl,hr⟩;obtain⟨A3,c3,S3⟩:=HI.o.step hr);rw[<-HE.o] at S3;have S3:=zH S3;clear hr CB e0;go_wp2_with fail;go_roundw;case rel=>exact⟨k+1,A3,c3,by omega,by go_num,by rw[HWT.o];exact S3⟩
   case measure=>simp[intOf];omega
  have hd:decide ((k:Int)>0)=true:=by simp;omega
  have hd2:decide ((0:Int)<(k:Int))=true:=hd;have hd3:decide (0<k)=true:=by simp;omega
  have HE:Hid (wt=wk++[[124]]++[bn]):=zH (by have:=HW.o.1;rwa[if_neg hk0] at this);clear hk0;have CB:=zH (wadd_new HI.o.wr [[124]] (by simp;omega));go_upto_region 29 with(go_at_call 50;refine CB.o.mono ?_;rintro e w3⟨rfl,hr⟩;obtain⟨A3,c3,S3⟩:=HI.o.step hr);have S3:=zH S3;clear hr CB e0;have CD:=zH (wadd_new S3.o.wr [bn] (by simp;omega));go_upto_region 30 with(go_at_call 50;refine CD.o.mono ?_;rintro e w4⟨rfl,hr⟩;obtain⟨A4,c4,S4⟩:=S3.o.step hr);rw[<-HE.o] at S4;have S4:=zH S4;clear hr CD S3;go_wp2_with fail;go_roundw;case rel=>exact⟨k+1,A4,c4,by omega,by go_num,by rw[HWT.o];exact S4⟩
  case measure=>simp[intOf];omega
 have HF:Hid (Wst Wr A B d w w.heap.size #[zI 5,zI (pos:Int),S name,.slice s.ty.1 type.length s.ty.2,.slice s.va.1 value.length s.va.2,S on,zI of,zI op,.slice s.so.1 som.length s.so.2,.slice s.pa.1 params.length s.pa.2,.slice X n s.bl.2,.slice s.fa.1 fams.length s.fa.2,.slice s.si.1 signs.length s.si.2,.slice s.od.1 orders.length s.od.2,zI lk,zI la,.slice s.le.1 lp.length s.le.2,zI rk,zI ra,.slice s.ri.1 rp.length s.ri.2,zI rel,zI count] qs (ws++[[37,119,111,114,108,100,115],[40]]++barsW blocks) A2 c2 wr):=zH (by
  have h1:=HI.o;rwa[List.take_of_length_le (by rw[HNL.o];omega)] at h1)
 have HLN:Hid ((ws++[[37,119,111,114,108,100,115],[40]]++barsW blocks).length<=2000000):=zH (by have:=barsW_le blocks;rw[HNL.o] at this;simp;omega);have HWF:Hid (ws++[37,119,111,114,108,100,115] :: [40] :: (barsW blocks++[41] :: fams)=(ws++[[37,119,111,114,108,100,115],[40]]++barsW blocks)++[[41]]++fams):=zH (by simp);generalize ws++[[37,119,111,114,108,100,115],[40]]++barsW blocks=wk at *;clear HI;have CE:=zH (wadd_new HF.o.wr [[41]] (by have:=HLN.o;simp;omega));go_upto_region 32 with(go_at_call 50;refine CE.o.mono ?_;rintro e w3⟨rfl,hr⟩;obtain⟨A3,c3,S3⟩:=HF.o.step hr);have S3:=zH S3;clear hr CE;have y11:=zC S3.o.box 11;simp at y11;have CG:=zH (wadd_any S3.o.wr s.fa.1 s.fa.2 fams ((HV.o w3 S3.o.bel).fa.1) (by have:=HLN.o;simp;omega));go_wp2_with (go_at_call 50;refine CG.o.mono ?_;rintro e w4⟨rfl,hr⟩;obtain⟨A4,c4,S4⟩:=S3.o.step hr);have S4:=zH S4;clear hr CG y11;go_wp2_with fail
 go_end0
 exact⟨rfl,by rw[HWF.o];exact S4.o.toA⟩
theorem witem_6{Wr:Nat}{w:World}{A B:Option Addr}{c d:Nat}{ws qs:List (List UInt8)}(h:WrI Wr w A c B d ws qs)(x:Itm)(s:IS)(hk:x.kind=6)(hsl:x.signs.length<=100)(hs:∀i∈x.signs,1<=i/\i<=3)(hv:∀W,Below Wr w W->ItV W x s)(hl:ws.length<=1000000)(hq:qs.length<=1000000) :
  Calls Tryz.prog 27 #[.pointer (some ⟨Wr,0,none⟩),.agg (itCells x s)] w fun e w'=>e=.returned (.tuple #[])/\WrA Wr A B d w (ws++x.words qs) qs w':=by
 have HV:=zH hv;have S0:=Wst.start h (itCells x s);obtain⟨wb,hwb⟩:∃wb,w.alloc (.cells (itCells x s) 42)=wb:=⟨_,rfl⟩;rw[hwb] at S0;have HWD:Hid (x.words qs=[[37,109,111,100,101],x.name]++x.signs.map signW):=zH (by unfold Itm.words;simp[hk]);rw[HWD.o];have hlt:=h.lt;clear h hv HWD;obtain⟨kind,pos,name,type,value,⟨on,of,op⟩,som,params,blocks,fams,signs,orders,⟨lk,la,lp⟩,⟨rk,ra,rp⟩,rel,count⟩:=x;simp only at HV hk hsl hs ⊢;subst hk;simp only[itCells,Lfc.Ord.k,Lfc.Ord.a,Lfc.Ord.ps] at S0 hwb ⊢;have HSI:=zH (fun W hW=>(HV.o W hW).si.1);have HSG:=zH hs;clear hs;generalize s.si.1=X at S0 hwb HSI ⊢;obtain⟨n,hn⟩:∃n,signs.length=n:=⟨_,rfl⟩;have HNL:=zH hn;rw[hn] at hsl S0 hwb ⊢;clear hn;have S0:=zH S0;have hb0:=S0.o.box;have y0:=zC hb0 0;have y2:=zC hb0 2;simp at y0 y2;clear hb0;have CA:=zH (wadd_new S0.o.wr [[37,109,111,100,101],name] (by simp;omega));go_enter Tryz.func27,Tryz.ntmps27;go_upto_region 34 with fail;clear hwb;go_upto_region 35 with(go_at_call 50;refine CA.o.mono ?_;rintro e w1⟨rfl,hr⟩;obtain⟨A1,c1,S1⟩:=S0.o.step hr);have S1:=zH S1;clear hr CA y0 y2;have hb1:=S1.o.box;have y12:=zC hb1 12;simp at y12;clear hb1;have S1:Hid (Wst Wr A B d w w.heap.size #[zI 6,zI (pos:Int),S name,.slice s.ty.1 type.length s.ty.2,.slice s.va.1 value.length s.va.2,S on,zI of,zI op,.slice s.so.1 som.length s.so.2,.slice s.pa.1 params.length s.pa.2,.slice s.bl.1 blocks.length s.bl.2,.slice s.fa.1 fams.length s.fa.2,.slice X n s.si.2,.slice s.od.1 orders.length s.od.2,zI lk,zI la,.slice s.le.1 lp.length s.le.2,zI rk,zI ra,.slice s.ri.1 rp.length s.ri.2,zI rel,zI count] qs (ws++[[37,109,111,100,101],name]++(signs.take 0).map signW) A1 c1 w1):=zH (by simpa using S1.o);go_wp2_with fail;go_loopw [142] (fun i wr=>∃(k:Nat)(A':Option Addr)(c':Nat),k<=n/\i=zI k/\Hid (Wst Wr A B d w w.heap.size #[zI 6,zI (pos:Int),S name,.slice s.ty.1 type.length s.ty.2,.slice s.va.1 value.length s.va.2,S on,zI of,zI op,.slice s.so.1 som.length s.so.2,.slice s.pa.1 params.length s.pa.2,.slice s.bl.1 blocks.length s.bl.2,.slice s.fa.1 fams.length s.fa.2,.slice X n s.si.2,.slice s.od.1 orders.length s.od.2,zI lk,zI la,.slice s.le.1 lp.length s.le.2,zI rk,zI ra,.slice s.ri.1 rp.length s.ri.2,zI rel,zI count] qs (ws++[[37,109,111,100,101],name]++(signs.take k).map signW) A' c' wr)) (fun i _=>n-(intOf i).toNat);case atStart=>exact⟨0,A1,c1,by omega,rfl,S1⟩
 clear S1 y12;obtain⟨k,A2,c2,hk,rfl,HI⟩:=hrel;by_cases hlt:k<n
 ·have hkl:k<signs.length:=by rw[HNL.o];exact hlt
  obtain⟨b,o,rfl,hfix⟩:=nums_fix HSI.o hkl;have e0:=hfix wr HI.o.bel;clear hfix;have hi0:=zP k;have hi1:(k:Int)<(n:Int):=by omega
  have hsg:=HSG.o _ (Ze hkl);have HW:Hid ((ws++[[37,109,111,100,101],name]++(signs.take (k+1)).map signW)=(ws++[[37,109,111,100,101],name]++(signs.take k).map signW)++[signW signs[k]]/\(ws++[[37,109,111,100,101],name]++(signs.take k).map signW).length<=2000000):=zH (by
   refine⟨by rw[Zm hkl,List.map_append,<-List.append_assoc];rfl,by simp;omega⟩)
  generalize hbn:signs[k]=sg at *;generalize hwt:(ws++[[37,109,111,100,101],name]++(signs.take (k+1)).map signW)=wt at *;have HWT:=zH hwt;generalize (ws++[[37,109,111,100,101],name]++(signs.take k).map signW)=wk at *;have hwk:wk.length<=2000000:=HW.o.2;clear hbn hwt;obtain⟨wn,hwn⟩:∃wn,wr.alloc (.cells #[S [],S [43],S [45],S [42]] 9)=wn:=⟨_,rfl⟩;have bn:=zG hwn;have qn:=zQ hwn;have SN:=zH (HI.o.below bn);clear bn;have hsg3:sg=1\/sg=2\/sg=3:=by omega
  clear hsg;rcases hsg3 with rfl | rfl | rfl;have hsw:Hid (signW 1=[43]):=zH (by decide);have yr:=zC qn 1;simp at yr;have CB:=zH (wadd_new SN.o.wr [[43]] (by simp;omega))
  rotate_left
  have hsw:Hid (signW 2=[45]):=zH (by decide);have yr:=zC qn 2;simp at yr;have CB:=zH (wadd_new SN.o.wr [[45]] (by simp;omega))
  rotate_left
  have hsw:Hid (signW 3=[42]):=zH (by decide);have yr:=zC qn 3;simp at yr;have CB:=zH (wadd_new SN.o.wr [[42]] (by simp;omega));all_goals
   clear qn;go_upto_region 39 with(go_at_call 50;refine CB.o.mono ?_;rintro e w3⟨rfl,hr⟩;obtain⟨A3,c3,S3⟩:=SN.o.step hr);have S3:Hid (Wst Wr A B d w w.heap.size _ qs wt A3 c3 w3):=zH (by rw[HW.o.1,hsw.o];exact S3);clear hr CB e0 yr hwn SN;go_wp2_with fail;go_roundw;case rel=>exact⟨k+1,A3,c3,by omega,by go_num,by rw[HWT.o];exact S3⟩
   case measure=>simp[intOf];omega
 have HF:Hid (WrA Wr A B d w (ws++[[37,109,111,100,101],name]++signs.map signW) qs wr):=zH (by
  have h1:=HI.o.toA;rwa[List.take_of_length_le (by rw[HNL.o];omega)] at h1)
 clear HI;go_wp2_with fail
 go_end0
 exact⟨rfl,by simpa using HF.o⟩
theorem witem_opF{Wr:Nat}{w:World}{A B:Option Addr}{c d:Nat}{ws qs:List (List UInt8)}(h:WrI Wr w A c B d ws qs)(f:Nat)(fw:List UInt8)(hf:f<6)(hfw:(#[S [],S [37,112,114,101,102,105,120],S [37,112,111,115,116,102,105,120],S [37,105,110,102,105,120,32,110,111,110,101],S [37,105,110,102,105,120,32,108,101,102,116],S [37,105,110,102,105,120,32,114,105,103,104,116]]:Array Value)[f]?=some (S fw))(pos:Nat)(name:List UInt8)(type value:List Raw)(on:List UInt8)(pr:Nat)(som params:List Bnd)(blocks fams:List (List UInt8))(signs:List Int)(orders:List (List UInt8 × Lfc.Ord))(lk la:Int)(lp:List Lfc.Ord)(rk ra:Int)(rp:List Lfc.Ord)(rel count:Int)(s:IS)(hp:pr<100)(hl:ws.length<=1000000)(hq:qs.length<=1000000) :
  Calls Tryz.prog 27 #[.pointer (some ⟨Wr,0,none⟩),.agg #[zI 3,zI (pos:Int),S name,.slice s.ty.1 type.length s.ty.2,.slice s.va.1 value.length s.va.2,S on,zI (f:Int),zI (pr:Int),.slice s.so.1 som.length s.so.2,.slice s.pa.1 params.length s.pa.2,.slice s.bl.1 blocks.length s.bl.2,.slice s.fa.1 fams.length s.fa.2,.slice s.si.1 signs.length s.si.2,.slice s.od.1 orders.length s.od.2,zI lk,zI la,.slice s.le.1 lp.length s.le.2,zI rk,zI ra,.slice s.ri.1 rp.length s.ri.2,zI rel,zI count]] w fun e w'=>e=.returned (.tuple #[])/\WrR Wr A B w (ws++[fw,dec pr,on]) (qs++[on]) w':=by
 obtain⟨i0,hi,hz0,hz1,hz2⟩:=str_info;obtain⟨cs,hcs⟩:∃cs:Array Value,#[zI 3,zI (pos:Int),S name,.slice s.ty.1 type.length s.ty.2,.slice s.va.1 value.length s.va.2,S on,zI (f:Int),zI (pr:Int),.slice s.so.1 som.length s.so.2,.slice s.pa.1 params.length s.pa.2,.slice s.bl.1 blocks.length s.bl.2,.slice s.fa.1 fams.length s.fa.2,.slice s.si.1 signs.length s.si.2,.slice s.od.1 orders.length s.od.2,zI lk,zI la,.slice s.le.1 lp.length s.le.2,zI rk,zI ra,.slice s.ri.1 rp.length s.ri.2,zI rel,zI count]=cs:=⟨_,rfl⟩;have k0:cs[0]?=some (zI 3):=by rw[<-hcs];rfl
 have k5:cs[5]?=some (S on):=by rw[<-hcs];rfl
 have k6:cs[6]?=some (zI (f:Int)):=by rw[<-hcs];rfl
 have k7:cs[7]?=some (zI (pr:Int)):=by rw[<-hcs];rfl
 obtain⟨ar,har⟩:∃ar:Array Value,#[S [],S [37,112,114,101,102,105,120],S [37,112,111,115,116,102,105,120],S [37,105,110,102,105,120,32,110,111,110,101],S [37,105,110,102,105,120,32,108,101,102,116],S [37,105,110,102,105,120,32,114,105,103,104,116]]=ar:=⟨_,rfl⟩;rw[har] at hfw;have S0:=Wst.start h cs;obtain⟨wb,hwb⟩:∃wb,w.alloc (.cells cs 42)=wb:=⟨_,rfl⟩;rw[hwb] at S0;have hlt:=h.lt;have S0:=zH S0;have hb0:=S0.o.box;have y0:=(zC hb0 0).trans k0;have SC:Hid (∀W,zb wb W->(fun W=>zc W w.heap.size 5 (S on)/\zc W w.heap.size 6 (zI (f:Int))/\zc W w.heap.size 7 (zI (pr:Int))) W):=zH fun W hb=>by
  have e:=(hb.block _ (zL S0.o.box)).trans S0.o.box;exact⟨(zC e 5).trans k5,(zC e 6).trans k6,(zC e 7).trans k7⟩
 have CI:=zH (fun W=>Tryz.strconv_Itoa_small pr hp W);have HLM:Hid (qs.length+1<=maxLen/\(qs.length+1)*16<=140737488355328):=zH ⟨by unfold maxLen;omega,by omega⟩;obtain⟨wc,hwc⟩:∃wc,wb.drew.alloc (.cells ar 9)=wc:=⟨_,rfl⟩;have bc:zb wb wc:=by rw[<-hwc];exact((zB _ _).drew).alloc (by simp) _
 have qc:wc.heap[wb.heap.size]?=some (.cells ar 9 (0,0)):=by rw[<-hwc];exact zW wb.drew _
 have sc:wb.drew.heap.size=wb.heap.size:=rfl;have AC:Hid (∀W,zb wc W->(fun W=>zc W w.heap.size 5 (S on)/\zc W w.heap.size 6 (zI (f:Int))/\zc W w.heap.size 7 (zI (pr:Int))) W/\zc W wb.heap.size f (S fw)):=zH fun W hb=>by
  have e:=(hb.block _ (zL qc)).trans qc;exact⟨SC.o W (bc.trans (hb.mono bc.size)),(zC e f).trans hfw⟩
 have h1:=S0.o.wr.below bc;have CA:=zH (wadd_new h1 [fw,dec pr,on] (by simp;omega));have NE:Hid (¬WE Wr A B wb.heap.size/\wb.heap.size<wc.heap.size):=zH ⟨S0.o.wr.not_new (zN _),zL qc⟩;have SCC:Hid (Wst Wr A B d w w.heap.size cs qs ws A c wc):=zH ⟨h1,S0.o.kp.trans (Kp.of_below bc),(bc.block _ (zL S0.o.box)).trans S0.o.box,S0.o.bel.trans (bc.mono (by have:=S0.o.wr.lt;omega))⟩;have FIN:Hid (∀w3,WrA Wr A B d wc (ws++[fw,dec pr,on]) qs w3->(((fun W=>zc W w.heap.size 5 (S on)/\zc W w.heap.size 6 (zI (f:Int))/\zc W w.heap.size 7 (zI (pr:Int))) w3/\zc w3 wb.heap.size f (S fw))/\∃A' c',Wst Wr A B d w w.heap.size cs qs (ws++[fw,dec pr,on]) A' c' w3)):=zH fun w3 ha=>by
  obtain⟨A',c',hs⟩:=SCC.o.step ha;have e:=hs.box;obtain⟨A3,c3,h3,k3⟩:=ha;have e2:=(k3.keep _ NE.o.2 NE.o.1).trans qc;exact⟨⟨⟨(zC e 5).trans k5,(zC e 6).trans k6,(zC e 7).trans k7⟩,(zC e2 f).trans hfw⟩,A',c',hs⟩
 have K5:=zH k5;have hf5:(f:Int)<6:=by omega
 have hf0:=zP f;have HAR:=zH har;clear h hb0 bc h1 k0 k5 k6 k7 hf har;rw[<-hcs] at hwb;clear hcs;go_enter Tryz.func27,Tryz.ntmps27;go_upto_region 13 with fail;clear hwb;refine wp_region_held_drew (S:=(fun W=>zc W w.heap.size 5 (S on)/\zc W w.heap.size 6 (zI (f:Int))/\zc W w.heap.size 7 (zI (pr:Int)))) (by kernel_rfl) (SC.o _ (zB _ _).drew) (fun hH=>?_);refine tk 0 ?_;refine tk 2 ?_;refine tk 3 ?_;refine tk 4 ?_;refine tk 7 ?_;refine tk 8 ?_;refine tk 9 ?_;refine tk 11 ?_;refine tk 12 ?_;refine tk 13 ?_;refine rd2 1 10 (fun K hK=>?_) (fun K hK=>?_);rw[if_pos (by rfl)];refine wp_buildSlice 36 9 6 _ (by rfl) #[S [],S [37,112,114,101,102,105,120],S [37,112,111,115,116,102,105,120],S [37,105,110,102,105,120,32,110,111,110,101],S [37,105,110,102,105,120,32,108,101,102,116],S [37,105,110,102,105,120,32,114,105,103,104,116]] i0 (S []) Tryz.underlying36 hi hz0 (by rw[hz1];decide) (by rw[hz1];decide) (by rw[hz1];exact fill6 _ _ _ _ _ _ _) ?_;rw[HAR.o,hwc];refine hK.out _ _ (AC.o _ (zB _ _)).1 (fun hH=>?_);clear hK K hH;refine nrm ?_;refine wpAnyH_mono (S':=fun W=>(fun W=>zc W w.heap.size 5 (S on)/\zc W w.heap.size 6 (zI (f:Int))/\zc W w.heap.size 7 (zI (pr:Int))) W/\zc W wb.heap.size f (S fw)) (fun W h=>h.1) _ _ _ _ ?_;have hH:=AC.o _ (zB _ _);refine tk 5 ?_;refine tk 6 ?_;refine rd1 10 (fun K hK=>?_);go_simp;go_at_call 52;refine(CI.o _).mono ?_;rintro e wi⟨rfl,rfl⟩;refine hK.out _ _ (AC.o _ (zB _ _)) (fun hH=>nrm ?_);clear hK K
 rotate_left
 go_simp;go_at_call 52;refine(CI.o _).mono ?_;rintro e wi⟨rfl,rfl⟩;refine hK.out _ _ (SC.o _ (zB _ _).drew) (fun hH=>nrm ?_);clear hK K;refine rd1 1 (fun K hK=>?_);rw[if_pos (by rfl)];refine wp_buildSlice 36 9 6 _ (by rfl) #[S [],S [37,112,114,101,102,105,120],S [37,112,111,115,116,102,105,120],S [37,105,110,102,105,120,32,110,111,110,101],S [37,105,110,102,105,120,32,108,101,102,116],S [37,105,110,102,105,120,32,114,105,103,104,116]] i0 (S []) Tryz.underlying36 hi hz0 (by rw[hz1];decide) (by rw[hz1];decide) (by rw[hz1];exact fill6 _ _ _ _ _ _ _) ?_;rw[HAR.o,hwc];refine hK.out _ _ (AC.o _ (zB _ _)).1 (fun hH=>?_);clear hK K hH;refine nrm ?_;refine wpAnyH_mono (S':=fun W=>(fun W=>zc W w.heap.size 5 (S on)/\zc W w.heap.size 6 (zI (f:Int))/\zc W w.heap.size 7 (zI (pr:Int))) W/\zc W wb.heap.size f (S fw)) (fun W h=>h.1) _ _ _ _ ?_;have hH:=AC.o _ (zB _ _);refine tk 5 ?_;refine tk 6 ?_;all_goals
  refine rd1 14 (fun K hK=>?_);go_simp;refine hK.out _ _ (AC.o _ ((zB _ _).alloc (zN _) _)) (fun hH=>nrm ?_);clear hK K;refine rd1 15 (fun K hK=>?_);go_simp;go_at_call 50;refine CA.o.mono ?_;rintro e w3⟨rfl,hr⟩;obtain⟨hS,A3,c3,T3⟩:=FIN.o w3 hr;refine hK.out _ _ hS (fun hH=>?_);clear hK K hr hS;refine Zw ?_ _;clear hH;have T3:=zH T3;go_upto_region 14 with fail;have SC3:Hid (∀W,zb w3 W->zc W w.heap.size 5 (S on)):=zH fun W hb=>(zC ((hb.block _ (zL T3.o.box)).trans T3.o.box) 5).trans K5.o;have z1:=zC T3.o.wr.blk 1;simp at z1;obtain⟨w4,hw4⟩:∃w4,w3.drew.alloc (.cells #[S on] 9)=w4:=⟨_,rfl⟩;have b4:zb w3 w4:=by rw[<-hw4];exact((zB _ _).drew).alloc (by simp) _
  have q4:zk w4 w3.heap.size #[S on] 9:=by rw[<-hw4];exact zW w3.drew _
  have z4:=(b4.cell (p:=⟨Wr,1,none⟩) (T3.o.wr.lt)).trans z1;have H4:=zH (T3.o.wr.below b4);have K4:=zH (T3.o.kp.trans (Kp.of_below b4));have hl4:=H4.o.lt;have B4:=zH b4;have C4:Hid (∀j u,[S on][j]?=some u->w4.cell? ((⟨w3.heap.size,0,none⟩:Addr).add j)=some u):=zH fun j u hj=>by
   match j,hj with
   |0,hj =>
    simp at hj;subst hj;rw[show(⟨w3.heap.size,0,none⟩:Addr).add 0=⟨w3.heap.size,0,none⟩ by unfold Addr.add;split <;> simp_all];exact zC q4 0
  clear b4 q4;refine wp_region_held_drew (S:=fun W=>zc W w.heap.size 5 (S on)) (by kernel_rfl) (SC3.o _ (zB _ _).drew) (fun hH=>?_);refine tk 0 ?_;refine tk 1 ?_;refine tk 2 ?_;refine tk 3 ?_;refine tk 5 ?_;refine tk 6 ?_;refine tk 7 ?_;refine rd2 4 8 (fun K hK=>?_) (fun K hK=>?_);go_simp;refine hK.out _ _ hH (fun hH=>nrm ?_);clear hK K;refine rd1 8 (fun K hK=>?_);go_simp;try rw[hw4]
  refine hK.out _ _ (SC3.o _ B4.o) (fun hH=>nrm ?_);clear hK K
  rotate_left
  go_simp;try rw[hw4]
  refine hK.out _ _ (SC3.o _ B4.o) (fun hH=>nrm ?_);clear hK K;refine rd1 4 (fun K hK=>?_);go_simp;refine hK.out _ _ hH (fun hH=>nrm ?_);clear hK K;all_goals
   refine rd1 9 (fun K hK=>?_);refine step_append_own_any _ (by rfl) _ _ 36 (by rfl) (Wr+1) 9 i0 (S []) 1 16 Tryz.underlying36 hi hz0 hz1 hz2 rfl (by decide) _ _ _ (by rfl) H4.o.qwn (some ⟨w3.heap.size,0,none⟩) 1 1 [S on] (by rfl) (by rfl) (fun _=>⟨_,rfl,C4.o⟩) (by intro u hu;simp at hu;subst hu;rfl) HLM.o.1 HLM.o.2 hl4 ?_;intro v5 w5 hown5 hg5 hat5;obtain⟨B5,d5,rfl⟩:=own_form hown5;obtain⟨q5,r5⟩:=H4.o.pushq hown5 hg5 hat5;have x5:=zC q5 1;have f5:=zF q5 1;simp at x5;have hbx:=(hg5.block _ (Zl (zL T3.o.box) B4.o.size) (fun e=>by
    have hbx:=(B4.o.block _ (zL T3.o.box)).trans T3.o.box;refine H4.o.not_E hbx (by decide) (by decide) ?_;rcases B with _ | a
    ·cases e
    exact .inr (.inr ⟨a,rfl,(zO e).symm⟩))).trans ((B4.o.block _ (zL T3.o.box)).trans T3.o.box)
   have R5:=zH (WrR.then K4.o r5);have hne5:w.heap.size≠Wr:=(by intro e;rw[<-e] at hlt;omega);refine hK.out _ _ ((zC hbx 5).trans K5.o) (fun hH=>nrm ?_);clear hK K;have o6:Oth Wr w5 (w5.setCell ⟨Wr,1,none⟩ (.slice B5 (qs.length+1) d5)):=Oth.set _ _;have hbx6:=zH (o6.heap hbx hne5);clear hown5 hg5 hat5 q5 r5 hbx o6;refine tk 10 ?_;refine tk 11 ?_;refine rd1 12 (fun K hK=>?_);go_simp;refine hK.out _ _ ((zC hbx6.o 5).trans K5.o) (fun hH=>?_);clear hK K;refine Zw ?_ _;go_wp2_with fail
   go_end0
   exact⟨rfl,R5.o⟩
end Go.Proofs.YthajalgkjonaaaaGreatDoor
namespace Lfc
theorem run_all(p:UInt8→Bool):∀l:List UInt8,runLen p l=l.length→∀c∈l,p c=true
 |[],_,c,h=>by cases h
 |a :: r,h,c,hc=>by
  simp only[runLen,List.length_cons] at h;split at h
  ·rename_i ha;rcases List.mem_cons.1 hc with rfl | hc
   ·exact ha
   exact run_all p r (by omega) c hc
  omega
theorem name_all{n:List UInt8}(h:isName n=true):∀c∈n,nameB c=true:=by
 unfold isName at h;simp only[Bool.and_eq_true,decide_eq_true_eq] at h;exact run_all _ n h.1.1.2
theorem name_ne{n:List UInt8}(h:isName n=true):n≠[]:=by
 unfold isName at h;simp only[Bool.and_eq_true,decide_eq_true_eq] at h;exact h.1.1.1.1
theorem name_res{n:List UInt8}(h:isName n=true):reservedB n=false:=by
 unfold isName at h;simp only[Bool.and_eq_true,decide_eq_true_eq,Bool.not_eq_true'] at h;exact h.1.2
theorem name_at{n:List UInt8}(h:isName n=true):¬(n.headD 0).toNat=64:=by
 unfold isName at h;simp only[Bool.and_eq_true,decide_eq_true_eq] at h;exact h.2
def Stop(s:List UInt8):Prop:=∀c r,s=c :: r→nameB c=false
theorem stop_cons{c:UInt8}(r:List UInt8)(h:nameB c=false):Stop (c :: r):=fun c' r' e=>by cases e;exact h
def wordOf(k:Int)(n:List UInt8):List UInt8:=if k=1 then n else if k=2 then 64 :: n else if k=3 then [95] else [116,121,112,101]
def midOf(k:Int):List UInt8:=if k=5 then [32] else if k=6 then [32,45,62,32] else [32,58,32]
def brOf(k:Int):UInt8:=if k=7 then 123 else 91
def crOf(k:Int):UInt8:=if k=7 then 125 else 93
theorem shapes{k p:Int}{n:List UInt8}{ts:List Raw}(h:(Raw.node k n p ts).form=true) :
  ((k=1∨k=2∨k=3∨k=4)∧ts=[]∧((k=1∨k=2)→isName n=true)∧((k=3∨k=4)→n=[])∧Raw.text [] (.node k n p ts)=wordOf k n) ∨
  ((k=5∨k=6∨k=9)∧n=[]∧∃x y,ts=[x,y]∧x.form=true∧y.form=true∧Raw.text [] (.node k n p ts)=40 :: (Raw.text [] x++(midOf k++(Raw.text [] y++[41])))) ∨
  ((k=7∨k=8)∧(isName n=true∨n=[95])∧∃x,ts=[x]∧x.form=true∧Raw.text [] (.node k n p ts)=40 :: brOf k :: (n++(crOf k :: 32 :: (Raw.text [] x++[41])))) ∨
  ((k=7∨k=8)∧(isName n=true∨n=[95])∧∃x y,ts=[x,y]∧x.form=true∧y.form=true∧Raw.text [] (.node k n p ts)=40 :: brOf k :: (n++(58 :: (Raw.text [] x++(crOf k :: 32 :: (Raw.text [] y++[41])))))):=by
 rw[Raw.form,Bool.and_eq_true] at h;obtain⟨hf,hs⟩:=h;unfold formed at hf;split at hf
 ·rename_i hk;simp only[Bool.and_eq_true,decide_eq_true_eq] at hf;obtain rfl:=List.length_eq_zero_iff.1 hf.2;refine .inl ⟨by omega,rfl,fun _=>hf.1,fun h=>by omega,?_⟩;rcases hk with rfl | rfl <;> simp[Raw.text,putText,wordOf]
 split at hf
 ·rename_i hk;simp only[Bool.and_eq_true,decide_eq_true_eq] at hf;obtain⟨rfl,h2⟩:=hf;obtain rfl:=List.length_eq_zero_iff.1 h2;refine .inl ⟨by omega,rfl,fun h=>by omega,fun _=>rfl,?_⟩;rcases hk with rfl | rfl <;> simp[Raw.text,putText,wordOf]
 split at hf
 ·rename_i hk;simp only[Bool.and_eq_true,decide_eq_true_eq] at hf;obtain⟨rfl,h2⟩:=hf
  match ts,h2 with
  |[x,y],_ =>
   simp only[Raw.forms,Bool.and_true,Bool.and_eq_true] at hs;refine .inr (.inl ⟨hk,rfl,x,y,rfl,hs.1,hs.2,?_⟩);rcases hk with rfl | rfl | rfl <;> simp[Raw.text,Raw.texts,putText,twoText,midOf]
 split at hf
 ·rename_i hk;simp only[Bool.and_eq_true,Bool.or_eq_true,decide_eq_true_eq] at hf;obtain⟨h1,h2⟩:=hf
  match ts,h2 with
  |[x],_ =>
   simp only[Raw.forms,Bool.and_true] at hs;refine .inr (.inr (.inl ⟨hk,h1,x,rfl,hs,?_⟩));rcases hk with rfl | rfl <;> simp[Raw.text,Raw.texts,putText,bindText,brOf,crOf]
  |[x,y],_ =>
   simp only[Raw.forms,Bool.and_true,Bool.and_eq_true] at hs;refine .inr (.inr (.inr ⟨hk,h1,x,y,rfl,hs.1,hs.2,?_⟩));rcases hk with rfl | rfl <;> simp[Raw.text,Raw.texts,putText,bindText,brOf,crOf]
  |[],h=>simp at h
  |_ :: _ :: _ :: _,h=>simp at h
 cases hf
theorem bind_names{n:List UInt8}(h:isName n=true∨n=[95]):∀c∈n,nameB c=true:=by
 rcases h with h | rfl
 ·exact name_all h
 decide
end Lfc
namespace Lfc
def kt(t:Tok):Int × List UInt8:=(t.kind,t.text)
def Eats(l:List UInt8)(K:List (Int × List UInt8))(ok:List UInt8→Prop):Prop :=
 ∀n z,ok z→(sc (n+l.length) z).2.1=0→∃ts,sc n (l++z)=(ts++(sc (n+l.length) z).1,(sc (n+l.length) z).2)∧ts.map kt=K
theorem Eats.app{l l':List UInt8}{K K':List (Int × List UInt8)}{ok ok':List UInt8→Prop}(h:Eats l K ok)(h':Eats l' K' ok')(hk:∀z,ok' z→ok (l'++z)):Eats (l++l') (K++K') ok':=by
 intro n z hz h0;rw[List.length_append,←Nat.add_assoc] at h0;obtain⟨ts',e',k'⟩:=h' (n+l.length) z hz h0;obtain⟨ts,e,k⟩:=h n (l'++z) (hk z hz) (by rw[e'];exact h0);refine⟨ts++ts',?_,by rw[List.map_append,k,k']⟩;rw[List.append_assoc,e,e',List.length_append,←Nat.add_assoc,List.append_assoc]
theorem Eats.mono{l:List UInt8}{K:List (Int × List UInt8)}{ok ok':List UInt8→Prop}(h:Eats l K ok)(hk:∀z,ok' z→ok z):Eats l K ok':=fun n z hz=>h n z (hk z hz)
def Any(z:List UInt8):Prop:=True
theorem eats_blank(c:UInt8)(h:blankB c=true):Eats [c] [] Any:=by
 intro n z _ h0;exact⟨[],by rw[List.cons_append,sc_blank n c _ h];rfl,rfl⟩
theorem sc_step(n m:Nat)(k:Int)(t:List UInt8)(c:UInt8)(r z:List UInt8)(e:nx (c :: r)=⟨k,t,m,0⟩)(hk:k≠0)(hd:(c :: r).drop m=z)(h0:(sc (n+m) z).2.1=0):sc n (c :: r)=(⟨k,t,n⟩ :: (sc (n+m) z).1,(sc (n+m) z).2):=by
 rw[sc_ok _ _ _ (by rw[e]),e];simp only;rw[hd];unfold put;rw[if_neg hk,if_pos h0]
theorem eats_special(c:UInt8)(hs:specialB c=true):Eats [c] [(2,[c])] Any:=by
 intro n z _ h0;have h1:=special_not' c hs;refine⟨[⟨2,[c],n⟩],?_,rfl⟩;have e:nx (c :: z)=⟨2,[c],1,0⟩:=by
  simp only[nx];rw[h1.1,if_neg (by simp),if_neg h1.2.1,h1.2.2,if_neg (by simp),hs,if_pos rfl]
 exact sc_step n 1 2 [c] c z z e (by decide) rfl h0
theorem eats_word(w:List UInt8)(hne:w≠[])(h64:w.length≤64)(hall:∀b∈w,nameB b=true):Eats w [(if reservedB w then 2 else 1,w)] Stop:=by
 intro n z hz h0;have hrun:=runLen_app nameB w z hall hz;cases w with
 |nil=>exact absurd rfl hne
 |cons c r =>
  have hc:=hall c List.mem_cons_self;have h1:=name_not c hc;have hrun':runLen nameB (c :: (r++z))=r.length+1:=by simpa using hrun
  have htk:(c :: (r++z)).take (r.length+1)=c :: r:=by rw[List.take_succ_cons,List.take_left]
  refine⟨[⟨if reservedB (c :: r) then 2 else 1,c :: r,n⟩],?_,rfl⟩;have e:nx (c :: (r++z))=⟨if reservedB (c :: r) then 2 else 1,c :: r,(c :: r).length,0⟩:=by
   simp only[nx];rw[h1.1,if_neg (by simp),if_neg h1.2,hc,if_pos rfl,hrun',htk];unfold nm;rw[if_neg (by omega)]
  rw[List.cons_append];exact sc_step n _ _ _ c (r++z) z e (by split <;> decide) (by simp) h0
theorem eats_nil:Eats [] [] Any:=fun n z _ h0=>⟨[],rfl,rfl⟩
def putKT(q:List (List UInt8))(k:Int)(n:List UInt8)(xs:List (List (Int × List UInt8))):List (Int × List UInt8) :=
 if k=1 then(if n∈q then [(2,[40]),(1,n),(2,[41])] else [(1,n)])
 else if k=2 then [(1,64 :: n)]
 else if k=3 then [(2,[95])]
 else if k=4 then [(2,[116,121,112,101])]
 else if k=5 then [(2,[40])]++xs.getD 0 []++xs.getD 1 []++[(2,[41])]
 else if k=6 then [(2,[40])]++xs.getD 0 []++[(2,[45,62])]++xs.getD 1 []++[(2,[41])]
 else if k=9 then [(2,[40])]++xs.getD 0 []++[(2,[58])]++xs.getD 1 []++[(2,[41])]
 else
  let o:List UInt8:=if k=7 then [123] else [91]
  let e:List UInt8:=if k=7 then [125] else [93]
  if xs.length=1 then [(2,[40]),(2,o),(if reservedB n then 2 else 1,n),(2,e)]++xs.getD 0 []++[(2,[41])]
  else [(2,[40]),(2,o),(if reservedB n then 2 else 1,n),(2,[58])]++xs.getD 0 []++[(2,e)]++xs.getD 1 []++[(2,[41])]
mutual
def Raw.kts(q:List (List UInt8)):Raw→List (Int × List UInt8)
 |.node k n _ ts=>putKT q k n (Raw.ktss q ts)
def Raw.ktss(q:List (List UInt8)):List Raw→List (List (Int × List UInt8))
 |[]=>[]
 |a :: r=>Raw.kts q a :: Raw.ktss q r
end
theorem eats_par{l:List UInt8}{K:List (Int × List UInt8)}{ok:List UInt8→Prop}(h:Eats l K ok)(hz:∀z,ok (41 :: z)):Eats ([40]++l++[41]) ([(2,[40])]++K++[(2,[41])]) Stop :=
 (((eats_special 40 (by decide)).app h (fun _ _=>trivial)).app (eats_special 41 (by decide)) (fun z _=>hz z)).mono (fun _ _=>trivial)
theorem eats_bindName{n:List UInt8}(hn:isName n=true∨n=[95])(h6:n.length≤60):Eats n [(if reservedB n then 2 else 1,n)] Stop:=by
 refine eats_word n ?_ (by omega) (bind_names hn);rcases hn with h | rfl
 ·exact name_ne h
 simp
theorem eats_text(q:List (List UInt8))(m:Nat):∀t:Raw,t.size≤m→t.form=true→t.short 60→Eats (t.text q) (t.kts q) Stop:=by
 induction m with
 |zero=>intro t h;have:=t.size_pos;omega
 |succ m ih =>
  intro t hm hf hsh;obtain⟨k,n,p,ts⟩:=t;rw[Raw.short] at hsh;obtain⟨hl,hsh⟩:=hsh;have s41:∀z,Stop (41 :: z):=fun z=>stop_cons _ (by decide);have s32:∀z,Stop (32 :: z):=fun z=>stop_cons _ (by decide);rcases shapes hf with⟨hk,rfl,h1,h2,_⟩ | ⟨hk,rfl,x,y,rfl,fx,fy,_⟩ | ⟨hk,hn,x,rfl,fx,_⟩ | ⟨hk,hn,x,y,rfl,fx,fy,_⟩
  ·rcases hk with rfl | rfl | rfl | rfl
   ·have hn:=h1 (.inl rfl);have hw:Eats n [(1,n)] Stop:=by
     have:=eats_word n (name_ne hn) (by omega) (name_all hn);rwa[name_res hn] at this
    simp only[Raw.text,Raw.kts,putText,putKT,if_pos];by_cases hq:n∈q
    ·rw[if_pos hq,if_pos hq];exact eats_par hw s41
    rw[if_neg hq,if_neg hq];exact hw
   ·have hn:=h1 (.inr rfl);have:=eats_word (64 :: n) (by simp) (by simp;omega) (fun b hb=>by
     rcases List.mem_cons.1 hb with rfl | hb
     ·decide
     exact name_all hn b hb)
    rw[show reservedB (64 :: n)=false by simp[reservedB]] at this;exact this
   ·rw[h2 (.inl rfl)];exact eats_word [95] (by simp) (by decide) (by decide)
   rw[h2 (.inr rfl)];exact eats_word [116,121,112,101] (by simp) (by decide) (by decide)
  ·simp only[Raw.size,Raw.sizes] at hm;simp only[Raw.shorts] at hsh;have hx:=ih x (by omega) fx hsh.1;have hy:=ih y (by omega) fy hsh.2.1;have b32:=eats_blank 32 (by decide);rcases hk with rfl | rfl | rfl
   ·have:=eats_par (((hx.app b32 (fun z _=>s32 z))).app hy (fun _ _=>trivial)) s41;simpa[Raw.text,Raw.texts,Raw.kts,Raw.ktss,putText,putKT,twoText] using this
   ·have hw:=eats_word [45,62] (by simp) (by decide) (by decide);have:=eats_par ((((hx.app b32 (fun z _=>s32 z)).app hw (fun _ _=>trivial)).app b32 (fun z _=>s32 z)).app hy (fun _ _=>trivial)) s41;simpa[Raw.text,Raw.texts,Raw.kts,Raw.ktss,putText,putKT,twoText,reservedB] using this
   have hw:=eats_special 58 (by decide);have:=eats_par ((((hx.app b32 (fun z _=>s32 z)).app hw (fun _ _=>trivial)).app b32 (fun z _=>trivial)).app hy (fun _ _=>trivial)) s41;simpa[Raw.text,Raw.texts,Raw.kts,Raw.ktss,putText,putKT,twoText] using this
  ·simp only[Raw.size,Raw.sizes] at hm;simp only[Raw.shorts] at hsh;have hx:=ih x (by omega) fx hsh.1;have hb:=eats_bindName hn hl;have b32:=eats_blank 32 (by decide);rcases hk with rfl | rfl
   ·have:=eats_par (((((eats_special 123 (by decide)).app hb (fun _ _=>trivial)).app (eats_special 125 (by decide)) (fun z _=>stop_cons _ (by decide))).app b32 (fun _ _=>trivial)).app hx (fun _ _=>trivial)) s41;simpa[Raw.text,Raw.texts,Raw.kts,Raw.ktss,putText,putKT,bindText] using this
   have:=eats_par (((((eats_special 91 (by decide)).app hb (fun _ _=>trivial)).app (eats_special 93 (by decide)) (fun z _=>stop_cons _ (by decide))).app b32 (fun _ _=>trivial)).app hx (fun _ _=>trivial)) s41;simpa[Raw.text,Raw.texts,Raw.kts,Raw.ktss,putText,putKT,bindText] using this
  simp only[Raw.size,Raw.sizes] at hm;simp only[Raw.shorts] at hsh;have hx:=ih x (by omega) fx hsh.1;have hy:=ih y (by omega) fy hsh.2.1;have hb:=eats_bindName hn hl;have b32:=eats_blank 32 (by decide);have b58:=eats_special 58 (by decide);rcases hk with rfl | rfl
  ·have:=eats_par (((((((eats_special 123 (by decide)).app hb (fun _ _=>trivial)).app b58 (fun z _=>stop_cons _ (by decide))).app hx (fun _ _=>trivial)).app (eats_special 125 (by decide)) (fun z _=>stop_cons _ (by decide))).app b32 (fun _ _=>trivial)).app hy (fun _ _=>trivial)) s41;simpa[Raw.text,Raw.texts,Raw.kts,Raw.ktss,putText,putKT,bindText] using this
  have:=eats_par (((((((eats_special 91 (by decide)).app hb (fun _ _=>trivial)).app b58 (fun z _=>stop_cons _ (by decide))).app hx (fun _ _=>trivial)).app (eats_special 93 (by decide)) (fun z _=>stop_cons _ (by decide))).app b32 (fun _ _=>trivial)).app hy (fun _ _=>trivial)) s41;simpa[Raw.text,Raw.texts,Raw.kts,Raw.ktss,putText,putKT,bindText] using this
theorem brk_len:∀(l:List UInt8)(p:Bool),brk p l≤l.length
 |[],_=>by simp[brk]
 |c :: r,p=>by
  have:=brk_len r (letterB c);simp only[brk,List.length_cons];split <;> omega
end Lfc
namespace Lfc
mutual
theorem same_size:∀a b:Raw,Raw.same false a b=true→a.size=b.size∧a.depth=b.depth∧a.form=b.form
 |.node k n p xs,.node k' n' p' ys,h=>by
  simp only[Raw.same,Bool.and_eq_true,decide_eq_true_eq] at h;obtain⟨⟨⟨rfl,rfl⟩,_⟩,h⟩:=h;obtain⟨h1,h2,h3,h4⟩:=sames_size xs ys h;simp only[Raw.size,Raw.depth,Raw.form];rw[h1,h2,h3,h4];exact⟨rfl,rfl,rfl⟩
theorem sames_size:∀a b:List Raw,Raw.sames false a b=true→Raw.sizes a=Raw.sizes b∧Raw.depths a=Raw.depths b∧Raw.forms a=Raw.forms b∧a.length=b.length
 |[],[],_=>⟨rfl,rfl,rfl,rfl⟩
 |a :: r,b :: s,h=>by
  simp only[Raw.sames,Bool.and_eq_true] at h;obtain⟨h1,h2,h3⟩:=same_size a b h.1;obtain⟨g1,g2,g3,g4⟩:=sames_size r s h.2;simp only[Raw.sizes,Raw.depths,Raw.forms,List.length_cons];rw[h1,h2,h3,g1,g2,g3,g4];exact⟨rfl,rfl,rfl,rfl⟩
 |[],_ :: _,h=>by simp[Raw.sames] at h
 |_ :: _,[],h=>by simp[Raw.sames] at h
end
theorem same_wf{a b:Raw}(h:Raw.same false a b=true):a.wf=b.wf:=by
 obtain⟨h1,h2,h3⟩:=same_size a b h;unfold Raw.wf;rw[h1,h2,h3]
def At(p:PE)(k:Nat)(K:List (Int × List UInt8)):Prop:=∃R,(p.toks.drop k).map kt=K++R
theorem At.app{p:PE}{k:Nat}{K K':List (Int × List UInt8)}(h:At p k (K++K')):At p k K∧At p (k+K.length) K':=by
 obtain⟨R,h⟩:=h;refine⟨⟨K'++R,by rw[h,List.append_assoc]⟩,R,?_⟩;have:=congrArg (List.drop K.length) h;rw[←List.map_drop,List.drop_drop,List.append_assoc,List.drop_left] at this;exact this
theorem At.head{p:PE}{k:Nat}{a:Int}{s:List UInt8}{K:List (Int × List UInt8)}(h:At p k ((a,s) :: K)):k<p.toks.length∧(p.pk k).kind=a∧(p.pk k).text=s∧At p (k+1) K:=by
 have h2:At p (k+1) K:=(At.app (K:=[(a,s)]) h).2;obtain⟨R,h⟩:=h;have hk:k<p.toks.length:=by
  rcases Nat.lt_or_ge k p.toks.length with h1 | h1
  ·exact h1
  rw[List.drop_eq_nil_of_le h1] at h;cases h
 rw[List.drop_eq_getElem_cons hk,List.map_cons,List.cons_append] at h;injection h with h3 _;unfold kt at h3;injection h3 with h4 h5;have e:p.pk k=p.toks[k]:=by unfold PE.pk;rw[List.getD_eq_getElem?_getD,List.getElem?_eq_getElem hk];rfl
 rw[e];exact⟨hk,h4,h5,h2⟩
def chain(g:Nat→PR (Option Opd)):Nat→List Opd→Nat→Prop
 |k,[],k'=>k=k'
 |k,x :: r,k'=>∃k1,g k=.ok (some x) k1∧chain g k1 r k'
theorem opdsG_chain{g:Nat→PR (Option Opd)}{k':Nat}(hs:g k'=.ok none k'):∀(xs:List Opd)(m k:Nat)(acc:List Opd),chain g k xs k'→xs.length<m→opdsG g m k acc=.ok (acc++xs) k'
 |[],m+1,k,acc,h,_=>by
  cases h;rw[opdsG,hs];simp
 |x :: r,m+1,k,acc,⟨k1,h,h'⟩,hm=>by
  rw[opdsG,h];simp only;rw[opdsG_chain hs r m k1 _ h' (by simpa using hm),List.append_assoc];rfl
theorem exprG_chain{p:PE}{g:Nat→PR (Option Opd)}{k k':Nat}{xs:List Opd}{t:Raw}(hs:g k'=.ok none k')(h:chain g k xs k')(hm:xs.length≤p.toks.length)(h0:xs.length≠0)(hr:resolved p.ops xs=(t,0)):p.exprG g k=.ok t k':=by
 unfold PE.exprG;rw[opdsG_chain hs xs _ k [] h (by omega)];simp only[PR.then,List.nil_append];rw[if_neg h0,hr,if_neg (by simp)]
def NoOp(ops:List Op)(x:Opd):Prop:=opOf ops x=none
theorem noOp_arrow{ops:List Op}{x:Opd}(h:NoOp ops x):x.arrow=false:=by
 unfold NoOp opOf at h;unfold Opd.arrow;split at h
 ·rename_i h1;simp only[Bool.or_eq_true,decide_eq_true_eq] at h1;rcases h1 with h1 | h1
  ·simp[h1]
  simp[h1]
 unfold look at h;split at h
 ·cases h
 split at h
 ·cases h
 simp[*]
theorem good_pre{ops:List Op}(ho:∀o∈ops,o.bad=0){xs:List Opd}(hx:∀x∈xs,x.arrow=true∨x.tree.wf=0):resolved ops xs=if xs.length=1 then(if (xs.getD 0 opdZ).arrow then(rawZ,21) else((xs.getD 0 opdZ).tree,0))
 else match resP ops xs.length xs with
  |.error e=>(rawZ,e)
  |.ok t=>if t.wf=0 then(t,0) else(rawZ,2):=by
 have h1:ops.any (fun o=>decide (o.bad≠0))=false:=List.any_eq_false.2 fun o h=>by simp[ho o h]
 have h2:xs.any (fun x=>!x.arrow && decide (x.tree.wf=1))=false:=List.any_eq_false.2 fun x h=>by rcases hx x h with h | h <;> simp[h]
 have h3:xs.any (fun x=>!x.arrow && decide (x.tree.wf=2))=false:=List.any_eq_false.2 fun x h=>by rcases hx x h with h | h <;> simp[h]
 unfold resolved;rw[h1,h2,h3];simp only[Bool.false_eq_true,if_false];rfl
theorem res_one{ops:List Op}(ho:∀o∈ops,o.bad=0){x:Opd}(hx:NoOp ops x∨x.arrow=false)(hw:x.tree.wf=0):resolved ops [x]=(x.tree,0):=by
 have ha:x.arrow=false:=hx.elim noOp_arrow id;rw[good_pre ho (fun y hy=>by simp at hy;subst hy;exact .inr hw)];simp[ha]
theorem low_no{ops:List Op}{x:Opd}(hx:NoOp ops x)(st:LowS)(i:Nat)(r:List Opd):lowN ops st i (x :: r)=lowN ops st (i+1) r:=by
 rw[lowN,hx];rfl
theorem resP_one{ops:List Op}{x:Opd}(hx:NoOp ops x)(m:Nat):resP ops (m+1) [x]=.ok x.tree:=by
 rw[resP,if_neg (by simp)];unfold resBody low;rw[low_no hx];simp[lowN,lowZ,appAll]
theorem res_two{ops:List Op}(ho:∀o∈ops,o.bad=0){x y:Opd}(hx:NoOp ops x)(hy:NoOp ops y)(hwx:x.tree.wf=0)(hwy:y.tree.wf=0)(hw:(appT x.tree y.tree).wf=0):resolved ops [x,y]=(appT x.tree y.tree,0):=by
 rw[good_pre ho (fun z hz=>by simp at hz;rcases hz with rfl | rfl;exact .inr hwx;exact .inr hwy)];have e:resP ops 2 [x,y]=.ok (appT x.tree y.tree):=by
  rw[resP,if_neg (by simp)];unfold resBody low;rw[low_no hx,low_no hy];simp[lowN,lowZ,appAll]
 show(if ([x,y]:List Opd).length=1 then _ else match resP ops 2 [x,y] with | .error e=>(rawZ,e) | .ok t=>if t.wf=0 then(t,0) else(rawZ,2))=_;rw[if_neg (by simp),e];simp only;rw[if_pos hw]
theorem res_three{ops:List Op}(ho:∀o∈ops,o.bad=0){x y:Opd}{pz:Int}(hx:NoOp ops x)(hy:NoOp ops y)(hwx:x.tree.wf=0)(hwy:y.tree.wf=0)(hw:(Raw.node 6 [] pz [x.tree,y.tree]).wf=0):resolved ops [x,⟨.node 1 arrR pz [],false⟩,y]=(.node 6 [] pz [x.tree,y.tree],0):=by
 rw[good_pre ho (fun z hz=>by simp at hz;rcases hz with rfl | rfl | rfl;exact .inr hwx;exact .inl rfl;exact .inr hwy)];have hl:low ops [x,⟨.node 1 arrR pz [],false⟩,y]=⟨[1],⟨[],5,-1⟩,true⟩:=by
  unfold low;rw[low_no hx,lowN];have:opOf ops ⟨.node 1 arrR pz [],false⟩=some ⟨[],5,-1⟩:=rfl;rw[this,low_no hy];rfl
 have e:resP ops 3 [x,⟨.node 1 arrR pz [],false⟩,y]=.ok (.node 6 [] pz [x.tree,y.tree]):=by
  rw[resP,if_neg (by simp)];unfold resBody;rw[hl];simp only[List.length_cons,List.length_nil];rw[if_neg (by simp),if_neg (by simp),if_neg (by decide),if_neg (by decide),if_neg (by simp)];unfold binT;have hs:segs [x,⟨.node 1 arrR pz [],false⟩,y] 0 [1,3]=[[x],[y]]:=rfl;show(match allOk (resP ops 2) (segs [x,⟨.node 1 arrR pz [],false⟩,y] 0 [1,3]) with | .error e=>_ | .ok parts=>_)=_;rw[hs];unfold allOk;rw[resP_one hx];unfold allOk;rw[resP_one hy];rfl
 show(if ([x,⟨.node 1 arrR pz [],false⟩,y]:List Opd).length=1 then _ else match resP ops 3 [x,⟨.node 1 arrR pz [],false⟩,y] with | .error e=>(rawZ,e) | .ok t=>if t.wf=0 then(t,0) else(rawZ,2))=_;rw[if_neg (by simp),e];simp only;rw[if_pos hw]
end Lfc
