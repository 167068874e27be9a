/- Parts of the proof that no input makes the law false: PaOds,PaRdc. -/
import Derived.Test.YthajalgkjonaaaaGreatDoorQxAW
import Derived.Test.YthajalgkjonaaaaGreatDoorQxAX
set_option linter.unusedVariables false
set_option linter.unusedSimpArgs false
namespace Go.Proofs.YthajalgkjonaaaaGreatDoor
open Go.RowKit
set_option maxRecDepth 100000 in
set_option maxHeartbeats 8000000 in
theorem orders_any{P I k:Nat}{G:Hd}{p:Lfc.PE}(kd:Int)(a:Nat)(w:World)(h:ItF w w P I G p k (itCells (Lfc.Itm.new a) IS.nil))(hk:k≤p.toks.length)(ok:POk p) :
  Calls Tryz.prog 178 #[.pointer (some ⟨P,0,none⟩),.pointer (some ⟨I,0,none⟩),.int .i64 kd] w (ItRes P I G p w (p.ordersP kd (Lfc.Itm.new a) k)):=by
 have hlen:=ok.len
 have hP:=h.pw.lt
 have hI:=h.lt
 have OK:=Lib.hid ok
 have F0:=Lib.hid h
 have HPI:=Lib.hid (And.intro hP hI)
 obtain⟨M,hm⟩:∃M,p.ordersP kd (Lfc.Itm.new a) k=M:=⟨_,rfl⟩
 rw[hm]
 have HR:=Lib.hid hm.symm
 have HNE:Hid (M≠.out):=Lib.hid (by have:=(Lfc.fair_orders p kd (Lfc.Itm.new a) k hk).1;rw[hm] at this;exact this)
 unfold Lfc.PE.ordersP at HR
 clear h ok hm
 obtain⟨iz,hi,hz0,hz1,hz2⟩:=ford_infoP
 obtain⟨s2,u2,e2,y2,z2,F2⟩:=F0.out.set 0 (.int .i64 kd) (by decide)
 go_enter Tryz.func178,Tryz.ntmps178
 go_wp2_with fail
 have hsz:=F2.out.oth.size
 obtain⟨hPx,hIx⟩:=HPI.out
 have HPB:Hid (P<s2.heap.size∧I<s2.heap.size∧w.heap.size≤s2.heap.size):=Lib.hid ⟨by omega,by omega,hsz⟩
 have L0:Hid (OdF w s2 P I s2.heap.size G p k _ [] none 0 []):=Lib.hid (OdF.start F2.out rfl)
 obtain⟨CS,hCS⟩:∃CS,(itCells (Lfc.Itm.new a) IS.nil).setIfInBounds 0 (.int .i64 kd)=CS:=⟨_,rfl⟩
 rw[hCS] at L0
 have HCS:=Lib.hid hCS
 clear hCS hsz e2 y2 z2
 go_loopw [6] (fun fam wr=>∃(f kk:Nat)(l:List (List UInt8 × Lfc.Ord))(A:Option Addr)(c:Nat)(xs:List Value),kk≤p.toks.length∧l.length≤kk∧Hid (M=(Lfc.ordersF p f kk l).then fun l k1=>(p.punct k1 [46]).then fun _ k2=>.ok ({ Lfc.Itm.new a with kind:=kd,orders:=l },p.ops) k2)∧Hid (OdF w wr P I s2.heap.size G p kk CS l A c xs)∧s2.heap.size≤wr.heap.size) (fun _ wr=>30000-cellLen I 13 wr)
 case atStart=>exact⟨p.toks.length+1,k,[],none,0,[],hk,by simp,HR,L0,Nat.le_refl _⟩
 case round =>
  clear L0 HR F2
  obtain⟨f,kk,l,A,c,xs,hkk,hll,HM,HL,hbr⟩:=hrel
  obtain _ | f:=f
  ·exact absurd HM.out HNE.out
  have hm:=HM.out
  rw[Lfc.ordersF] at hm
  have c13:wr.cell? ⟨I,13,none⟩=some (.slice A l.length c):=HL.out.ls.cell (by decide) (Oth.refl _ _)
  have CI:=Lib.hid (isName_at wr HL.out.ls.f.pw hkk OK.out)
  by_cases hl0:l=[]
  ·rw[if_pos (.inl hl0)] at hm
   have hlz:((l.length:Int) == 0)=true:=by rw[hl0];rfl
   have HM:=Lib.hid hm
   clear hm hl0 CI
   as_aux_lemma =>
    go_upto_region 2 with fail
    have CN:=Lib.hid (name_at wr HL.out.ls.f.pw (by omega) OK.out)
    have FN:=Lfc.fair_name p kk
    have hbW:s2.heap.size≤wr.heap.size:=by omega
    rcases Lfc.PR.cases FN.1 with⟨cc,aa,hr⟩ | ⟨n,k8,hr⟩
    ·rw[hr] at CN
     have HF:Hid (M=.err cc aa):=Lib.hid (by rw[HM.out,hr];rfl)
     clear hr FN HM
     go_wp2_with (go_at_call 138;refine CN.out.mono ?_;rintro e w8⟨rfl,o8⟩)
     rw[HF.out]
     exact⟨rfl,rfl,(HL.out.ls.f.oth.trans (Oth2.left o8))⟩
    ·have hnw:=name_le OK.out hr
     rw[hr] at CN
     have hb8:=FN.2.2 _ _ hr
     have HM8:Hid (M=((p.order k8).then fun o k2=>Lfc.ordersF p f k2 (l++[(n,o)])).then fun l k1=>(p.punct k1 [46]).then fun _ k2=>.ok ({ Lfc.Itm.new a with kind:=kd,orders:=l },p.ops) k2):=Lib.hid (by rw[HM.out,hr];rfl)
     clear hr FN HM
     go_upto_region 3 with(go_at_call 138;refine CN.out.mono ?_;rintro e w8⟨⟨v8,rfl,rfl⟩,h8,o8⟩;have L8:=Lib.hid (HL.out.call HPB.out.1 h8 o8);have hs8:=o8.size)
     have FR:=Lfc.fair_order p k8 hb8.2
     have CO:Calls Tryz.prog 179 #[.pointer (some ⟨P,0,none⟩),.int .i64 0] w8.drew (PRes P G p w8.drew (OrdR w8.drew) (p.order k8)):=order_of p OK.out 128 0 (by omega) (by omega) P k8 G w8.drew hb8.2 L8.out.ls.f.pw.drew
     have hbW8:s2.heap.size≤w8.heap.size:=by omega
     have y8:w8.cell? ⟨I,13,none⟩=some (.slice A l.length c):=L8.out.ls.cell (by decide) (Oth.refl _ _)
     have y8d:w8.drew.cell? ⟨I,13,none⟩=some (.slice A l.length c):=y8
     have o8d:Oth P w8 w8.drew:=(Oth.refl _ _).drew
     have HLL:=Lib.hid (cellLen_eq c13)
     rcases Lfc.PR.cases FR.1 with⟨cc,aa,hr⟩ | ⟨x,k9,hr⟩
     ·rw[hr] at CO
      have CE:=Lib.hid CO
      have HF:Hid (M=.err cc aa):=Lib.hid (by rw[HM8.out,hr];rfl)
      have O8:=Lib.hid (L8.out.ls.f.oth.trans (Oth2.left o8d))
      clear CO hr FR h8 o8 o8d CN
      as_aux_lemma =>
       refine wp_region_held_drew (S:=fun W=>W.cell? ⟨I,13,none⟩=some (.slice A l.length c)) (by kernel_rfl) y8d (fun hHeld=>?_)
       refine tk 0 ?_
       refine tk 1 ?_
       refine tk 2 ?_
       refine tk 3 ?_
       refine tk 4 ?_
       refine tk 5 ?_
       refine tk 6 ?_
       refine wpAnyH_ready (rs:=[7]) (by kernel_rfl) (by simp) (AllReadyH.cons rfl (fun K hK=>?_) AllReadyH.nil)
       go_simp
       go_at_call 179
       with_reducible refine CE.out.mono ?_
       rintro e w9⟨rfl,o9⟩
       go_simp
       go_wp2_with fail
       rw[HF.out]
       exact⟨rfl,rfl,O8.out.trans (Oth2.left o9)⟩
     ·rw[hr] at CO
      have CE:=Lib.hid CO
      have hb9:=FR.2.2 _ _ hr
      have HM9:Hid (M=(Lfc.ordersF p f k9 (l++[(n,x)])).then fun l k1=>(p.punct k1 [46]).then fun _ k2=>.ok ({ Lfc.Itm.new a with kind:=kd,orders:=l },p.ops) k2):=Lib.hid (by rw[HM8.out,hr];rfl)
      have HLM:Hid (l.length+1≤maxLen∧(l.length+1)*56≤140737488355328):=Lib.hid ⟨by unfold maxLen;omega,by omega⟩
      clear CO hr FR h8 o8 CN HM8
      as_aux_lemma =>
       refine wp_region_held_drew (S:=fun _=>True) (by kernel_rfl) trivial (fun hHeld=>?_)
       refine tk 0 ?_
       refine tk 1 ?_
       refine tk 2 ?_
       refine tk 3 ?_
       refine tk 5 ?_
       refine tk 6 ?_
       refine wpAnyH_ready (rs:=[4,7]) (by kernel_rfl) (by simp) (AllReadyH.cons rfl (fun K hK=>?_) (AllReadyH.cons rfl (fun K hK=>?_) AllReadyH.nil))
       ·as_aux_lemma =>
         go_simp
         refine hK.out _ _ trivial (fun hHeld=>?_)
         clear hK K
         refine nrm ?_
         refine wpAnyH_ready (rs:=[7]) (by kernel_rfl) (by simp) (AllReadyH.cons rfl (fun K hK=>?_) AllReadyH.nil)
         go_simp
         go_at_call 179
         with_reducible refine CE.out.mono ?_
         rintro e w9⟨⟨v,rfl,hv⟩,h9,o9⟩
         obtain⟨k7,a7,us7,A7,c7,ht7,rfl,hp7⟩:=OrdVP.parts3 hv
         have L9:=L8.out.call HPB.out.1 h9 (o8d.trans o9)
         have hown9:=L9.ls.own
         have y9:w9.cell? ⟨I,13,none⟩=some (.slice A l.length c):=L9.ls.cell (by decide) (Oth.refl _ _)
         have hs9:s2.heap.size≤w9.heap.size:=Nat.le_trans hbW8 o9.size
         go_simp
         refine hK.out _ _ trivial (fun hHeld=>?_)
         clear hK K hv ht7
         refine nrm ?_
         refine tk 8 ?_
         refine wpAnyH_ready (rs:=[9]) (by kernel_rfl) (by simp) (AllReadyH.cons rfl (fun K hK=>?_) AllReadyH.nil)
         go_simp
         refine hK.out _ _ trivial (fun hHeld=>?_)
         clear hK K
         refine nrm ?_
         refine wpAnyH_ready (rs:=[10]) (by kernel_rfl) (by simp) (AllReadyH.cons rfl (fun K hK=>?_) AllReadyH.nil)
         refine step_append_own_at _ (by rfl) _ _ 37 (by rfl) s2.heap.size 74 iz (.agg #[S [],.int .i64 0,.int .i64 0,.slice none 0 0]) 4 56 Tryz.underlying37 hi hz0 hz1 hz2 rfl (by decide) _ _ _ (by rfl) (hown9.alloc _) ⟨w9.heap.size,0,none⟩ 1 1 [S n,.int .i64 k7,.int .i64 a7,.slice A7 us7.length c7] (by rfl) (by rfl) (fun j u h=>cells_new w9 _ rfl [S n,.int .i64 k7,.int .i64 a7,.slice A7 us7.length c7] _ j u h) (by intro u hu;simp at hu;rcases hu with rfl | rfl | rfl | rfl <;> rfl) HLM.out.1 HLM.out.2 (alloc_le hs9) ?_
         intro v' w10 hown10 hg10 hloc10
         obtain⟨A10,c10,rfl⟩:=own_form hown10
         obtain⟨⟨y10,f10⟩,hfin,hsf⟩:=L8.out.push HPB.out.1 HPB.out.2.1 HPB.out.2.2 hbW8 h9 (o8d.trans o9) ((Below.refl _ _).alloc (Nat.le_refl _) _) hnw hp7 hown10 hg10 (by simpa using hloc10)
         have HNX:=Lib.hid hfin
         have hs10:=Nat.le_trans hs9 hsf
         clear hfin hown9 hown10 hg10 hloc10 y9 hp7 h9 o9 L9 hsf
         refine hK.out _ _ trivial (fun hHeld=>?_)
         clear hK K
         refine nrm ?_
         refine tk 11 ?_
         refine tk 12 ?_
         refine wpAnyH_ready (rs:=[13]) (by kernel_rfl) (by simp) (AllReadyH.cons rfl (fun K hK=>?_) AllReadyH.nil)
         go_simp
         refine hK.out _ _ trivial (fun hHeld=>?_)
         clear hK K
         refine wpAnyH_done (by kernel_rfl) ?_ _
         go_wp2_with fail
         go_roundw
         case rel=>exact⟨f,k9,_,A10,c10,_,hb9.2,by have:=hb9.1;have:=hb8.1;simp;omega,HM9,HNX,hs10⟩
         case measure=>rw[cellLen_eq (HNX.out.ls.cell (by decide) (Oth.refl _ _)),HLL.out];simp;omega
       ·as_aux_lemma =>
         go_simp
         go_at_call 179
         with_reducible refine CE.out.mono ?_
         rintro e w9⟨⟨v,rfl,hv⟩,h9,o9⟩
         obtain⟨k7,a7,us7,A7,c7,ht7,rfl,hp7⟩:=OrdVP.parts3 hv
         have L9:=L8.out.call HPB.out.1 h9 (o8d.trans o9)
         have hown9:=L9.ls.own
         have y9:w9.cell? ⟨I,13,none⟩=some (.slice A l.length c):=L9.ls.cell (by decide) (Oth.refl _ _)
         have hs9:s2.heap.size≤w9.heap.size:=Nat.le_trans hbW8 o9.size
         go_simp
         refine hK.out _ _ trivial (fun hHeld=>?_)
         clear hK K hv ht7
         refine nrm ?_
         refine tk 8 ?_
         refine wpAnyH_ready (rs:=[4,9]) (by kernel_rfl) (by simp) (AllReadyH.cons rfl (fun K hK=>?_) (AllReadyH.cons rfl (fun K hK=>?_) AllReadyH.nil))
         ·as_aux_lemma =>
           go_simp
           refine hK.out _ _ trivial (fun hHeld=>?_)
           clear hK K
           refine nrm ?_
           refine wpAnyH_ready (rs:=[9]) (by kernel_rfl) (by simp) (AllReadyH.cons rfl (fun K hK=>?_) AllReadyH.nil)
           go_simp
           refine hK.out _ _ trivial (fun hHeld=>?_)
           clear hK K
           refine nrm ?_
           refine wpAnyH_ready (rs:=[10]) (by kernel_rfl) (by simp) (AllReadyH.cons rfl (fun K hK=>?_) AllReadyH.nil)
           refine step_append_own_at _ (by rfl) _ _ 37 (by rfl) s2.heap.size 74 iz (.agg #[S [],.int .i64 0,.int .i64 0,.slice none 0 0]) 4 56 Tryz.underlying37 hi hz0 hz1 hz2 rfl (by decide) _ _ _ (by rfl) (hown9.alloc _) ⟨w9.heap.size,0,none⟩ 1 1 [S n,.int .i64 k7,.int .i64 a7,.slice A7 us7.length c7] (by rfl) (by rfl) (fun j u h=>cells_new w9 _ rfl [S n,.int .i64 k7,.int .i64 a7,.slice A7 us7.length c7] _ j u h) (by intro u hu;simp at hu;rcases hu with rfl | rfl | rfl | rfl <;> rfl) HLM.out.1 HLM.out.2 (alloc_le hs9) ?_
           intro v' w10 hown10 hg10 hloc10
           obtain⟨A10,c10,rfl⟩:=own_form hown10
           obtain⟨⟨y10,f10⟩,hfin,hsf⟩:=L8.out.push HPB.out.1 HPB.out.2.1 HPB.out.2.2 hbW8 h9 (o8d.trans o9) ((Below.refl _ _).alloc (Nat.le_refl _) _) hnw hp7 hown10 hg10 (by simpa using hloc10)
           have HNX:=Lib.hid hfin
           have hs10:=Nat.le_trans hs9 hsf
           clear hfin hown9 hown10 hg10 hloc10 y9 hp7 h9 o9 L9 hsf
           refine hK.out _ _ trivial (fun hHeld=>?_)
           clear hK K
           refine nrm ?_
           refine tk 11 ?_
           refine tk 12 ?_
           refine wpAnyH_ready (rs:=[13]) (by kernel_rfl) (by simp) (AllReadyH.cons rfl (fun K hK=>?_) AllReadyH.nil)
           go_simp
           refine hK.out _ _ trivial (fun hHeld=>?_)
           clear hK K
           refine wpAnyH_done (by kernel_rfl) ?_ _
           go_wp2_with fail
           go_roundw
           case rel=>exact⟨f,k9,_,A10,c10,_,hb9.2,by have:=hb9.1;have:=hb8.1;simp;omega,HM9,HNX,hs10⟩
           case measure=>rw[cellLen_eq (HNX.out.ls.cell (by decide) (Oth.refl _ _)),HLL.out];simp;omega
         ·as_aux_lemma =>
           go_simp
           refine hK.out _ _ trivial (fun hHeld=>?_)
           clear hK K
           refine nrm ?_
           have y9a:(w9.alloc (.cells #[S n,.int .i64 k7,.int .i64 a7,.slice A7 us7.length c7] 74)).cell? ⟨I,13,none⟩=some (.slice A l.length c):=L9.ls.cell (by decide) (Oth.of_below ((Below.refl _ _).alloc (Nat.le_refl _) _))
           refine wpAnyH_ready (rs:=[4]) (by kernel_rfl) (by simp) (AllReadyH.cons rfl (fun K hK=>?_) AllReadyH.nil)
           go_simp
           refine hK.out _ _ trivial (fun hHeld=>?_)
           clear hK K
           refine nrm ?_
           refine wpAnyH_ready (rs:=[10]) (by kernel_rfl) (by simp) (AllReadyH.cons rfl (fun K hK=>?_) AllReadyH.nil)
           refine step_append_own_at _ (by rfl) _ _ 37 (by rfl) s2.heap.size 74 iz (.agg #[S [],.int .i64 0,.int .i64 0,.slice none 0 0]) 4 56 Tryz.underlying37 hi hz0 hz1 hz2 rfl (by decide) _ _ _ (by rfl) (hown9.alloc _) ⟨w9.heap.size,0,none⟩ 1 1 [S n,.int .i64 k7,.int .i64 a7,.slice A7 us7.length c7] (by rfl) (by rfl) (fun j u h=>cells_new w9 _ rfl [S n,.int .i64 k7,.int .i64 a7,.slice A7 us7.length c7] _ j u h) (by intro u hu;simp at hu;rcases hu with rfl | rfl | rfl | rfl <;> rfl) HLM.out.1 HLM.out.2 (alloc_le hs9) ?_
           intro v' w10 hown10 hg10 hloc10
           obtain⟨A10,c10,rfl⟩:=own_form hown10
           obtain⟨⟨y10,f10⟩,hfin,hsf⟩:=L8.out.push HPB.out.1 HPB.out.2.1 HPB.out.2.2 hbW8 h9 (o8d.trans o9) ((Below.refl _ _).alloc (Nat.le_refl _) _) hnw hp7 hown10 hg10 (by simpa using hloc10)
           have HNX:=Lib.hid hfin
           have hs10:=Nat.le_trans hs9 hsf
           clear hfin hown9 hown10 hg10 hloc10 y9 hp7 h9 o9 L9 hsf
           refine hK.out _ _ trivial (fun hHeld=>?_)
           clear hK K
           refine nrm ?_
           refine tk 11 ?_
           refine tk 12 ?_
           refine wpAnyH_ready (rs:=[13]) (by kernel_rfl) (by simp) (AllReadyH.cons rfl (fun K hK=>?_) AllReadyH.nil)
           go_simp
           refine hK.out _ _ trivial (fun hHeld=>?_)
           clear hK K
           refine wpAnyH_done (by kernel_rfl) ?_ _
           go_wp2_with fail
           go_roundw
           case rel=>exact⟨f,k9,_,A10,c10,_,hb9.2,by have:=hb9.1;have:=hb8.1;simp;omega,HM9,HNX,hs10⟩
           case measure=>rw[cellLen_eq (HNX.out.ls.cell (by decide) (Oth.refl _ _)),HLL.out];simp;omega
  ·have hlz:((l.length:Int) == 0)=false:=by
    have:=List.length_pos_iff.2 hl0
    simp;omega
   cases hz:p.isNm kk
   ·rw[if_neg (by rw[hz];simp[hl0])] at hm
    rw[hz] at CI
    rw[Lfc.PR.then_okE] at hm
    have CP:=Lib.hid (fun W (h:PW W P G p kk)=>punct_any [46] W h hkk OK.out)
    have HM:=Lib.hid hm
    have FR:=Lfc.fair_punct p kk [46]
    rcases Lfc.PR.cases FR.1 with⟨cc,aa,hr⟩ | ⟨x,k9,hr⟩
    ·rw[hr] at CP
     have HF:Hid (M=.err cc aa):=Lib.hid (by rw[HM.out,hr];rfl)
     clear hm hr FR HM hl0 hz
     as_aux_lemma =>
      go_wp2_with (first
       |(go_at_call 72;refine CI.out.mono ?_;rintro e w7⟨rfl,b7⟩;have L7:=Lib.hid (HL.out.call HPB.out.1 (HL.out.ls.f.pw.below b7) (Oth.of_below b7)))
       |(go_at_call 141;refine(CP.out _ L7.out.ls.f.pw).mono ?_;rintro e w8⟨rfl,o8⟩))
      rw[HF.out]
      exact⟨rfl,rfl,(L7.out.ls.f.oth.trans (Oth2.left o8))⟩
    ·rw[hr] at CP
     have HF:Hid (M=.ok ({ Lfc.Itm.new a with kind:=kd,orders:=l },p.ops) k9):=Lib.hid (by rw[HM.out,hr];rfl)
     clear hm hr FR HM hl0 hz
     as_aux_lemma =>
      go_wp2_with (first
       |(go_at_call 72;refine CI.out.mono ?_;rintro e w7⟨rfl,b7⟩;have L7:=Lib.hid (HL.out.call HPB.out.1 (HL.out.ls.f.pw.below b7) (Oth.of_below b7)))
       |(go_at_call 141;refine(CP.out _ L7.out.ls.f.pw).mono ?_;rintro e w8⟨⟨v8,rfl,hv8⟩,h8,o8⟩;try subst hv8))
      go_end0
      rw[HF.out]
      have L8:=L7.out.call HPB.out.1 h8 o8
      refine L8.ls.f.ret { Lfc.Itm.new a with kind:=kd,orders:=l } { IS.nil with od:=(A,c) } ?_ ((L8.stays HPB.out.2.2).imp fun W h=>{ ItV.nil W a with od:=h })
      rw[←HCS.out]
      rfl
   ·rw[if_pos (.inr hz)] at hm
    rw[hz] at CI
    have HM:=Lib.hid hm
    clear hm hl0
    as_aux_lemma =>
     go_upto_region 2 with(go_at_call 72;refine CI.out.mono ?_;rintro e w7⟨rfl,b7⟩;have L7:=Lib.hid (HL.out.call HPB.out.1 (HL.out.ls.f.pw.below b7) (Oth.of_below b7));have hb7:=b7.size)
     have CN:=Lib.hid (name_at w7 L7.out.ls.f.pw (by omega) OK.out)
     have FN:=Lfc.fair_name p kk
     have hbW:s2.heap.size≤w7.heap.size:=by omega
     rcases Lfc.PR.cases FN.1 with⟨cc,aa,hr⟩ | ⟨n,k8,hr⟩
     ·rw[hr] at CN
      have HF:Hid (M=.err cc aa):=Lib.hid (by rw[HM.out,hr];rfl)
      clear hr FN HM
      go_wp2_with (go_at_call 138;refine CN.out.mono ?_;rintro e w8⟨rfl,o8⟩)
      rw[HF.out]
      exact⟨rfl,rfl,(L7.out.ls.f.oth.trans (Oth2.left o8))⟩
     ·have hnw:=name_le OK.out hr
      rw[hr] at CN
      have hb8:=FN.2.2 _ _ hr
      have HM8:Hid (M=((p.order k8).then fun o k2=>Lfc.ordersF p f k2 (l++[(n,o)])).then fun l k1=>(p.punct k1 [46]).then fun _ k2=>.ok ({ Lfc.Itm.new a with kind:=kd,orders:=l },p.ops) k2):=Lib.hid (by rw[HM.out,hr];rfl)
      clear hr FN HM
      go_upto_region 3 with(go_at_call 138;refine CN.out.mono ?_;rintro e w8⟨⟨v8,rfl,rfl⟩,h8,o8⟩;have L8:=Lib.hid (L7.out.call HPB.out.1 h8 o8);have hs8:=o8.size)
      have FR:=Lfc.fair_order p k8 hb8.2
      have CO:Calls Tryz.prog 179 #[.pointer (some ⟨P,0,none⟩),.int .i64 0] w8.drew (PRes P G p w8.drew (OrdR w8.drew) (p.order k8)):=order_of p OK.out 128 0 (by omega) (by omega) P k8 G w8.drew hb8.2 L8.out.ls.f.pw.drew
      have hbW8:s2.heap.size≤w8.heap.size:=by omega
      have y8:w8.cell? ⟨I,13,none⟩=some (.slice A l.length c):=L8.out.ls.cell (by decide) (Oth.refl _ _)
      have y8d:w8.drew.cell? ⟨I,13,none⟩=some (.slice A l.length c):=y8
      have o8d:Oth P w8 w8.drew:=(Oth.refl _ _).drew
      have HLL:=Lib.hid (cellLen_eq c13)
      rcases Lfc.PR.cases FR.1 with⟨cc,aa,hr⟩ | ⟨x,k9,hr⟩
      ·rw[hr] at CO
       have CE:=Lib.hid CO
       have HF:Hid (M=.err cc aa):=Lib.hid (by rw[HM8.out,hr];rfl)
       have O8:=Lib.hid (L8.out.ls.f.oth.trans (Oth2.left o8d))
       clear CO hr FR h8 o8 o8d CN
       as_aux_lemma =>
        refine wp_region_held_drew (S:=fun W=>W.cell? ⟨I,13,none⟩=some (.slice A l.length c)) (by kernel_rfl) y8d (fun hHeld=>?_)
        refine tk 0 ?_
        refine tk 1 ?_
        refine tk 2 ?_
        refine tk 3 ?_
        refine tk 4 ?_
        refine tk 5 ?_
        refine tk 6 ?_
        refine wpAnyH_ready (rs:=[7]) (by kernel_rfl) (by simp) (AllReadyH.cons rfl (fun K hK=>?_) AllReadyH.nil)
        go_simp
        go_at_call 179
        with_reducible refine CE.out.mono ?_
        rintro e w9⟨rfl,o9⟩
        go_simp
        go_wp2_with fail
        rw[HF.out]
        exact⟨rfl,rfl,O8.out.trans (Oth2.left o9)⟩
      ·rw[hr] at CO
       have CE:=Lib.hid CO
       have hb9:=FR.2.2 _ _ hr
       have HM9:Hid (M=(Lfc.ordersF p f k9 (l++[(n,x)])).then fun l k1=>(p.punct k1 [46]).then fun _ k2=>.ok ({ Lfc.Itm.new a with kind:=kd,orders:=l },p.ops) k2):=Lib.hid (by rw[HM8.out,hr];rfl)
       have HLM:Hid (l.length+1≤maxLen∧(l.length+1)*56≤140737488355328):=Lib.hid ⟨by unfold maxLen;omega,by omega⟩
       clear CO hr FR h8 o8 CN HM8
       as_aux_lemma =>
        refine wp_region_held_drew (S:=fun _=>True) (by kernel_rfl) trivial (fun hHeld=>?_)
        refine tk 0 ?_
        refine tk 1 ?_
        refine tk 2 ?_
        refine tk 3 ?_
        refine tk 5 ?_
        refine tk 6 ?_
        refine wpAnyH_ready (rs:=[4,7]) (by kernel_rfl) (by simp) (AllReadyH.cons rfl (fun K hK=>?_) (AllReadyH.cons rfl (fun K hK=>?_) AllReadyH.nil))
        ·as_aux_lemma =>
          go_simp
          refine hK.out _ _ trivial (fun hHeld=>?_)
          clear hK K
          refine nrm ?_
          refine wpAnyH_ready (rs:=[7]) (by kernel_rfl) (by simp) (AllReadyH.cons rfl (fun K hK=>?_) AllReadyH.nil)
          go_simp
          go_at_call 179
          with_reducible refine CE.out.mono ?_
          rintro e w9⟨⟨v,rfl,hv⟩,h9,o9⟩
          obtain⟨k7,a7,us7,A7,c7,ht7,rfl,hp7⟩:=OrdVP.parts3 hv
          have L9:=L8.out.call HPB.out.1 h9 (o8d.trans o9)
          have hown9:=L9.ls.own
          have y9:w9.cell? ⟨I,13,none⟩=some (.slice A l.length c):=L9.ls.cell (by decide) (Oth.refl _ _)
          have hs9:s2.heap.size≤w9.heap.size:=Nat.le_trans hbW8 o9.size
          go_simp
          refine hK.out _ _ trivial (fun hHeld=>?_)
          clear hK K hv ht7
          refine nrm ?_
          refine tk 8 ?_
          refine wpAnyH_ready (rs:=[9]) (by kernel_rfl) (by simp) (AllReadyH.cons rfl (fun K hK=>?_) AllReadyH.nil)
          go_simp
          refine hK.out _ _ trivial (fun hHeld=>?_)
          clear hK K
          refine nrm ?_
          refine wpAnyH_ready (rs:=[10]) (by kernel_rfl) (by simp) (AllReadyH.cons rfl (fun K hK=>?_) AllReadyH.nil)
          refine step_append_own_at _ (by rfl) _ _ 37 (by rfl) s2.heap.size 74 iz (.agg #[S [],.int .i64 0,.int .i64 0,.slice none 0 0]) 4 56 Tryz.underlying37 hi hz0 hz1 hz2 rfl (by decide) _ _ _ (by rfl) (hown9.alloc _) ⟨w9.heap.size,0,none⟩ 1 1 [S n,.int .i64 k7,.int .i64 a7,.slice A7 us7.length c7] (by rfl) (by rfl) (fun j u h=>cells_new w9 _ rfl [S n,.int .i64 k7,.int .i64 a7,.slice A7 us7.length c7] _ j u h) (by intro u hu;simp at hu;rcases hu with rfl | rfl | rfl | rfl <;> rfl) HLM.out.1 HLM.out.2 (alloc_le hs9) ?_
          intro v' w10 hown10 hg10 hloc10
          obtain⟨A10,c10,rfl⟩:=own_form hown10
          obtain⟨⟨y10,f10⟩,hfin,hsf⟩:=L8.out.push HPB.out.1 HPB.out.2.1 HPB.out.2.2 hbW8 h9 (o8d.trans o9) ((Below.refl _ _).alloc (Nat.le_refl _) _) hnw hp7 hown10 hg10 (by simpa using hloc10)
          have HNX:=Lib.hid hfin
          have hs10:=Nat.le_trans hs9 hsf
          clear hfin hown9 hown10 hg10 hloc10 y9 hp7 h9 o9 L9 hsf
          refine hK.out _ _ trivial (fun hHeld=>?_)
          clear hK K
          refine nrm ?_
          refine tk 11 ?_
          refine tk 12 ?_
          refine wpAnyH_ready (rs:=[13]) (by kernel_rfl) (by simp) (AllReadyH.cons rfl (fun K hK=>?_) AllReadyH.nil)
          go_simp
          refine hK.out _ _ trivial (fun hHeld=>?_)
          clear hK K
          refine wpAnyH_done (by kernel_rfl) ?_ _
          go_wp2_with fail
          go_roundw
          case rel=>exact⟨f,k9,_,A10,c10,_,hb9.2,by have:=hb9.1;have:=hb8.1;simp;omega,HM9,HNX,hs10⟩
          case measure=>rw[cellLen_eq (HNX.out.ls.cell (by decide) (Oth.refl _ _)),HLL.out];simp;omega
        ·as_aux_lemma =>
          go_simp
          go_at_call 179
          with_reducible refine CE.out.mono ?_
          rintro e w9⟨⟨v,rfl,hv⟩,h9,o9⟩
          obtain⟨k7,a7,us7,A7,c7,ht7,rfl,hp7⟩:=OrdVP.parts3 hv
          have L9:=L8.out.call HPB.out.1 h9 (o8d.trans o9)
          have hown9:=L9.ls.own
          have y9:w9.cell? ⟨I,13,none⟩=some (.slice A l.length c):=L9.ls.cell (by decide) (Oth.refl _ _)
          have hs9:s2.heap.size≤w9.heap.size:=Nat.le_trans hbW8 o9.size
          go_simp
          refine hK.out _ _ trivial (fun hHeld=>?_)
          clear hK K hv ht7
          refine nrm ?_
          refine tk 8 ?_
          refine wpAnyH_ready (rs:=[4,9]) (by kernel_rfl) (by simp) (AllReadyH.cons rfl (fun K hK=>?_) (AllReadyH.cons rfl (fun K hK=>?_) AllReadyH.nil))
          ·as_aux_lemma =>
            go_simp
            refine hK.out _ _ trivial (fun hHeld=>?_)
            clear hK K
            refine nrm ?_
            refine wpAnyH_ready (rs:=[9]) (by kernel_rfl) (by simp) (AllReadyH.cons rfl (fun K hK=>?_) AllReadyH.nil)
            go_simp
            refine hK.out _ _ trivial (fun hHeld=>?_)
            clear hK K
            refine nrm ?_
            refine wpAnyH_ready (rs:=[10]) (by kernel_rfl) (by simp) (AllReadyH.cons rfl (fun K hK=>?_) AllReadyH.nil)
            refine step_append_own_at _ (by rfl) _ _ 37 (by rfl) s2.heap.size 74 iz (.agg #[S [],.int .i64 0,.int .i64 0,.slice none 0 0]) 4 56 Tryz.underlying37 hi hz0 hz1 hz2 rfl (by decide) _ _ _ (by rfl) (hown9.alloc _) ⟨w9.heap.size,0,none⟩ 1 1 [S n,.int .i64 k7,.int .i64 a7,.slice A7 us7.length c7] (by rfl) (by rfl) (fun j u h=>cells_new w9 _ rfl [S n,.int .i64 k7,.int .i64 a7,.slice A7 us7.length c7] _ j u h) (by intro u hu;simp at hu;rcases hu with rfl | rfl | rfl | rfl <;> rfl) HLM.out.1 HLM.out.2 (alloc_le hs9) ?_
            intro v' w10 hown10 hg10 hloc10
            obtain⟨A10,c10,rfl⟩:=own_form hown10
            obtain⟨⟨y10,f10⟩,hfin,hsf⟩:=L8.out.push HPB.out.1 HPB.out.2.1 HPB.out.2.2 hbW8 h9 (o8d.trans o9) ((Below.refl _ _).alloc (Nat.le_refl _) _) hnw hp7 hown10 hg10 (by simpa using hloc10)
            have HNX:=Lib.hid hfin
            have hs10:=Nat.le_trans hs9 hsf
            clear hfin hown9 hown10 hg10 hloc10 y9 hp7 h9 o9 L9 hsf
            refine hK.out _ _ trivial (fun hHeld=>?_)
            clear hK K
            refine nrm ?_
            refine tk 11 ?_
            refine tk 12 ?_
            refine wpAnyH_ready (rs:=[13]) (by kernel_rfl) (by simp) (AllReadyH.cons rfl (fun K hK=>?_) AllReadyH.nil)
            go_simp
            refine hK.out _ _ trivial (fun hHeld=>?_)
            clear hK K
            refine wpAnyH_done (by kernel_rfl) ?_ _
            go_wp2_with fail
            go_roundw
            case rel=>exact⟨f,k9,_,A10,c10,_,hb9.2,by have:=hb9.1;have:=hb8.1;simp;omega,HM9,HNX,hs10⟩
            case measure=>rw[cellLen_eq (HNX.out.ls.cell (by decide) (Oth.refl _ _)),HLL.out];simp;omega
          ·as_aux_lemma =>
            go_simp
            refine hK.out _ _ trivial (fun hHeld=>?_)
            clear hK K
            refine nrm ?_
            have y9a:(w9.alloc (.cells #[S n,.int .i64 k7,.int .i64 a7,.slice A7 us7.length c7] 74)).cell? ⟨I,13,none⟩=some (.slice A l.length c):=L9.ls.cell (by decide) (Oth.of_below ((Below.refl _ _).alloc (Nat.le_refl _) _))
            refine wpAnyH_ready (rs:=[4]) (by kernel_rfl) (by simp) (AllReadyH.cons rfl (fun K hK=>?_) AllReadyH.nil)
            go_simp
            refine hK.out _ _ trivial (fun hHeld=>?_)
            clear hK K
            refine nrm ?_
            refine wpAnyH_ready (rs:=[10]) (by kernel_rfl) (by simp) (AllReadyH.cons rfl (fun K hK=>?_) AllReadyH.nil)
            refine step_append_own_at _ (by rfl) _ _ 37 (by rfl) s2.heap.size 74 iz (.agg #[S [],.int .i64 0,.int .i64 0,.slice none 0 0]) 4 56 Tryz.underlying37 hi hz0 hz1 hz2 rfl (by decide) _ _ _ (by rfl) (hown9.alloc _) ⟨w9.heap.size,0,none⟩ 1 1 [S n,.int .i64 k7,.int .i64 a7,.slice A7 us7.length c7] (by rfl) (by rfl) (fun j u h=>cells_new w9 _ rfl [S n,.int .i64 k7,.int .i64 a7,.slice A7 us7.length c7] _ j u h) (by intro u hu;simp at hu;rcases hu with rfl | rfl | rfl | rfl <;> rfl) HLM.out.1 HLM.out.2 (alloc_le hs9) ?_
            intro v' w10 hown10 hg10 hloc10
            obtain⟨A10,c10,rfl⟩:=own_form hown10
            obtain⟨⟨y10,f10⟩,hfin,hsf⟩:=L8.out.push HPB.out.1 HPB.out.2.1 HPB.out.2.2 hbW8 h9 (o8d.trans o9) ((Below.refl _ _).alloc (Nat.le_refl _) _) hnw hp7 hown10 hg10 (by simpa using hloc10)
            have HNX:=Lib.hid hfin
            have hs10:=Nat.le_trans hs9 hsf
            clear hfin hown9 hown10 hg10 hloc10 y9 hp7 h9 o9 L9 hsf
            refine hK.out _ _ trivial (fun hHeld=>?_)
            clear hK K
            refine nrm ?_
            refine tk 11 ?_
            refine tk 12 ?_
            refine wpAnyH_ready (rs:=[13]) (by kernel_rfl) (by simp) (AllReadyH.cons rfl (fun K hK=>?_) AllReadyH.nil)
            go_simp
            refine hK.out _ _ trivial (fun hHeld=>?_)
            clear hK K
            refine wpAnyH_done (by kernel_rfl) ?_ _
            go_wp2_with fail
            go_roundw
            case rel=>exact⟨f,k9,_,A10,c10,_,hb9.2,by have:=hb9.1;have:=hb8.1;simp;omega,HM9,HNX,hs10⟩
            case measure=>rw[cellLen_eq (HNX.out.ls.cell (by decide) (Oth.refl _ _)),HLL.out];simp;omega
end Go.Proofs.YthajalgkjonaaaaGreatDoor
namespace Go.Proofs.YthajalgkjonaaaaGreatDoor
open Go.RowKit
theorem Lfc.PR.then_assoc{α β γ:Type}(r:Lfc.PR α)(f:α→Nat→Lfc.PR β)(g:β→Nat→Lfc.PR γ):(r.then f).then g=r.then fun x k=>(f x k).then g:=by cases r <;> rfl
theorem order_any(p:Lfc.PE)(ok:POk p)(P k:Nat)(G:Hd)(w:World)(hk:k≤p.toks.length)(h:PW w P G p k):Calls Tryz.prog 179 #[.pointer (some ⟨P,0,none⟩),.int .i64 0] w (PRes P G p w (OrdR w) (p.order k)):=order_of p ok 128 0 (by omega) (by omega) P k G w hk h
theorem order_stay{lo:Nat}{wc w1:World}{k a:Int}{us:List Lfc.Ord}{A:Option Addr}{c:Nat}(hs:lo≤wc.heap.size)(hp:OrdP (fun b=>wc.heap.size≤b) w1 (.node k a us) (.int .i64 k) (.int .i64 a) (.slice A us.length c)):Hid (Stays (fun b=>lo≤b) w1 fun W=>OrdsAt W A us∧us.length≤c):=Lib.hid fun w' h1 h2=>by
 have h:=OrdP.toC _ _ _ _ (OrdP.keep (q':=fun _=>True) (fun b hb hlt=>h2 b (Nat.le_trans hs hb) hlt) h1 (fun _ _ _=>trivial) _ _ _ _ hp)
 rw[OrdC] at h
 obtain⟨_,_,A',c',e,hc,hA⟩:=h
 injection e with e1 _ e3
 subst e1 e3
 exact⟨hA,hc⟩
set_option maxRecDepth 100000 in
set_option maxHeartbeats 4000000 in
theorem reduces_any{P I k:Nat}{G:Hd}{p:Lfc.PE}(a:Nat)(w:World)(h:ItF w w P I G p k (itCells (Lfc.Itm.new a) IS.nil))(hk:k≤p.toks.length)(ok:POk p) :
  Calls Tryz.prog 136 #[.pointer (some ⟨P,0,none⟩),.pointer (some ⟨I,0,none⟩)] w (ItRes P I G p w (p.reducesP (Lfc.Itm.new a) k)):=by
 have hlen:=ok.len
 have hP:=h.pw.lt
 have hI:=h.lt
 have OK:=Lib.hid ok
 have F0:=Lib.hid h
 have HPI:=Lib.hid (And.intro hP hI)
 obtain⟨M,hm⟩:∃M,p.reducesP (Lfc.Itm.new a) k=M:=⟨_,rfl⟩
 rw[hm]
 have HR:=Lib.hid hm.symm
 unfold Lfc.PE.reducesP at HR
 clear h ok hm
 go_enter Tryz.func136,Tryz.ntmps136
 have FR:=Lfc.fair_name p k
 rcases Lfc.PR.cases FR.1 with⟨cc,aa,hr⟩ | ⟨n,k1,hr⟩
 ·have C:=Lib.hid (name_at w F0.out.pw (by omega) OK.out)
  rw[hr] at C
  have hm:=HR.out
  rw[hr,Lfc.PR.then_errE] at hm
  have HM:=Lib.hid hm
  clear hr FR hm
  go_wp2_with (go_at_call 138;refine C.out.mono ?_;rintro e w1⟨rfl,o1⟩)
  rw[HM.out]
  exact⟨rfl,rfl,(Oth2.refl P I w).trans (F0.out.oth.trans (Oth2.left o1))⟩
 have C:=Lib.hid (name_at w F0.out.pw (by omega) OK.out)
 rw[hr] at C
 have hm:=HR.out
 rw[hr,Lfc.PR.then_okE] at hm
 have HR:=Lib.hid hm
 obtain⟨hk1a,hk1b⟩:=FR.2.2 _ _ hr
 have HE1:=Lib.hid hr
 clear hr FR hm
 go_upto_region 1 with(go_at_call 138;refine C.out.mono ?_;rintro e w1⟨⟨v1,rfl,rfl⟩,h1,o1⟩;have F1a:=Lib.hid (F0.out.call h1 o1);obtain⟨s2,u2,e2,y2,z2,F2⟩:=F1a.out.set 0 (.int .i64 12) (by decide);obtain⟨s3,u3,e3,y3,z3,F3⟩:=F2.out.set 2 (S n) (by decide))
 have HN:=Lib.hid (name_le OK.out HE1.out)
 have FR:=Lfc.fair_order p k1 (by omega)
 rcases Lfc.PR.cases FR.1 with⟨cc,aa,hr⟩ | ⟨x4,k4,hr⟩
 ·have C:=Lib.hid (order_any p OK.out P k1 G s3 (by omega) F3.out.pw)
  rw[hr] at C
  have hm:=HR.out
  rw[hr,Lfc.PR.then_errE] at hm
  have HM:=Lib.hid hm
  clear hr FR hm
  go_wp2_with (go_at_call 179;refine C.out.mono ?_;rintro e w4⟨rfl,o4⟩)
  rw[HM.out]
  exact⟨rfl,rfl,(Oth2.refl P I w).trans (F3.out.oth.trans (Oth2.left o4))⟩
 have C:=Lib.hid (order_any p OK.out P k1 G s3 (by omega) F3.out.pw)
 rw[hr] at C
 have hm:=HR.out
 rw[hr,Lfc.PR.then_okE] at hm
 have HR:=Lib.hid hm
 obtain⟨hk4a,hk4b⟩:=FR.2.2 _ _ hr
 have HE4:=Lib.hid hr
 clear hr FR hm
 go_upto_region 2 with(go_at_call 179;refine C.out.mono ?_;rintro e w4⟨⟨v4,rfl,hv⟩,h4,o4⟩;have F4a:=Lib.hid (F3.out.call h4 o4);obtain⟨q4,r4,us4,A4,c4,ht4,rfl,hp4⟩:=OrdVP.parts3 hv;subst ht4;have T4:=order_stay (Nat.le_trans (Oth2.refl P I w).size F3.out.oth.size) hp4;have F4b:=Lib.hid F4a.out.again;have OT4:=Lib.hid ((Oth2.refl P I w).trans F4a.out.oth);obtain⟨s5,u5,e5,y5,z5,F5⟩:=F4b.out.set 14 (.int .i64 q4) (by decide);obtain⟨s6,u6,e6,y6,z6,F6⟩:=F5.out.set 15 (.int .i64 r4) (by decide);obtain⟨s7,u7,e7,y7,z7,F7⟩:=F6.out.set 16 (.slice A4 us4.length c4) (by decide))
 clear hp4 hv
 cases hz:p.is k4 2 [61]
 ·skip
  have hm:=HR.out
  rw[if_neg (by rw[hz];decide)] at hm
  have HR:=Lib.hid hm
  clear hm
  have C:=Lib.hid (take_any 2 [61] s7 F7.out.pw (by omega) OK.out)
  simp only[hz,if_true,Bool.false_eq_true,if_false] at C
  go_upto_region 4 with(go_at_call 139;refine C.out.mono ?_;rintro e w8⟨rfl,h8,o8⟩;have F8a:=Lib.hid (F7.out.call h8 o8))
  clear hz
  have hm:=HR.out
  rw[Lfc.PR.then_assoc] at hm
  have HR:=Lib.hid hm
  clear hm
  obtain⟨wz,hwz⟩:∃wz,w8.alloc (.cells #[S [60],S [60,61]] 9)=wz:=⟨_,rfl⟩
  have bz:Below w8.heap.size w8 wz:=by rw[←hwz];exact(Below.refl _ _).alloc (Nat.le_refl _) _
  have qz:wz.heap[w8.heap.size]?=some (.cells #[S [60],S [60,61]] 9 (0,0)):=by rw[←hwz];exact heap_alloc_new _ _
  have F9z:=Lib.hid (F8a.out.below bz)
  have HQZ:=Lib.hid (lt_of_block qz)
  have HWC:Hid (∀j(hj:j<Lfc.rels.length),wz.cell? ⟨w8.heap.size,0+j,none⟩=some (S Lfc.rels[j])):=Lib.hid fun j hj=>by
   rw[Nat.zero_add,Lib.cell_of_heap qz j]
   have:j=0∨j=1:=by
    have:Lfc.rels.length=2:=rfl
    omega
   rcases this with rfl | rfl <;> rfl
  clear qz bz
  have FR:=Lfc.fair_word p k4 Lfc.rels
  rcases Lfc.PR.cases FR.1 with⟨cc,aa,hr⟩ | ⟨i,k10,hr⟩
  ·have C:=Lib.hid (word_any (k:=k4) Lfc.rels w8.heap.size 0 2 wz F9z.out.pw (by omega) OK.out (by decide) HQZ.out HWC.out)
   rw[hr] at C
   have hm:=HR.out
   rw[hr,Lfc.PR.then_errE] at hm
   have HM:=Lib.hid hm
   clear hr FR hm
   rw[show Lfc.rels.length=2 from rfl] at C
   go_wp2_with (go_at_call 174;refine C.out.mono ?_;rintro e w10⟨rfl,o10⟩)
   rw[HM.out]
   exact⟨rfl,rfl,OT4.out.trans (F9z.out.oth.trans (Oth2.left o10))⟩
  have C:=Lib.hid (word_any (k:=k4) Lfc.rels w8.heap.size 0 2 wz F9z.out.pw (by omega) OK.out (by decide) HQZ.out HWC.out)
  rw[hr] at C
  have hm:=HR.out
  rw[hr,Lfc.PR.then_okE] at hm
  have HR:=Lib.hid hm
  obtain⟨hk10a,hk10b⟩:=FR.2.2 _ _ hr
  have HE10:=Lib.hid hr
  clear hr FR hm
  rw[show Lfc.rels.length=2 from rfl] at C
  obtain⟨hi0,hi1,_,_⟩:=Lfc.PE.word_ok HE10.out
  have hw9:IntKind.i64.wrap (1+i)=1+i:=IntWalk.i64_in _ (by have:(Lfc.rels.length:Int)=2:=rfl;omega)
  go_upto_region 5 with(go_at_call 174;refine C.out.mono ?_;rintro e w10⟨⟨v10,rfl,rfl⟩,h10,o10⟩;have F10a:=Lib.hid (F9z.out.call h10 o10);obtain⟨s11,u11,e11,y11,z11,F11⟩:=F10a.out.set 20 (.int .i64 (1+i)) (by decide))
  have hm:=HR.out
  rw[Lfc.PR.then_okE] at hm
  have HR:=Lib.hid hm
  clear hm
  have FR:=Lfc.fair_order p k10 (by omega)
  rcases Lfc.PR.cases FR.1 with⟨cc,aa,hr⟩ | ⟨x12,k12,hr⟩
  ·have C:=Lib.hid (order_any p OK.out P k10 G s11 (by omega) F11.out.pw)
   rw[hr] at C
   have hm:=HR.out
   rw[hr,Lfc.PR.then_errE] at hm
   have HM:=Lib.hid hm
   clear hr FR hm
   go_wp2_with (go_at_call 179;refine C.out.mono ?_;rintro e w12⟨rfl,o12⟩)
   rw[HM.out]
   exact⟨rfl,rfl,OT4.out.trans (F11.out.oth.trans (Oth2.left o12))⟩
  have C:=Lib.hid (order_any p OK.out P k10 G s11 (by omega) F11.out.pw)
  rw[hr] at C
  have hm:=HR.out
  rw[hr,Lfc.PR.then_okE] at hm
  have HR:=Lib.hid hm
  obtain⟨hk12a,hk12b⟩:=FR.2.2 _ _ hr
  have HE12:=Lib.hid hr
  clear hr FR hm
  go_upto_region 6 with(go_at_call 179;refine C.out.mono ?_;rintro e w12⟨⟨v12,rfl,hv⟩,h12,o12⟩;have F12a:=Lib.hid (F11.out.call h12 o12);obtain⟨q12,r12,us12,A12,c12,ht12,rfl,hp12⟩:=OrdVP.parts3 hv;subst ht12;have T12:=order_stay (Nat.le_trans OT4.out.size F11.out.oth.size) hp12;have F12b:=Lib.hid F12a.out.again;have OT12:=Lib.hid (OT4.out.trans F12a.out.oth);have T12m0:=Lib.hid (T4.out.oth2 F12a.out.oth HPI.out.1 HPI.out.2);obtain⟨s13,u13,e13,y13,z13,F13⟩:=F12b.out.set 17 (.int .i64 q12) (by decide);obtain⟨s14,u14,e14,y14,z14,F14⟩:=F13.out.set 18 (.int .i64 r12) (by decide);obtain⟨s15,u15,e15,y15,z15,F15⟩:=F14.out.set 19 (.slice A12 us12.length c12) (by decide))
  clear hp12 hv
  have FR:=Lfc.fair_punct p k12 [46]
  rcases Lfc.PR.cases FR.1 with⟨cc,aa,hr⟩ | ⟨u,k16,hr⟩
  ·have C:=Lib.hid (punct_any [46] s15 F15.out.pw (by omega) OK.out)
   rw[hr] at C
   have hm:=HR.out
   rw[hr,Lfc.PR.then_errE] at hm
   have HM:=Lib.hid hm
   clear hr FR hm
   go_wp2_with (go_at_call 141;refine C.out.mono ?_;rintro e w16⟨rfl,o16⟩)
   rw[HM.out]
   exact⟨rfl,rfl,OT12.out.trans (F15.out.oth.trans (Oth2.left o16))⟩
  have C:=Lib.hid (punct_any [46] s15 F15.out.pw (by omega) OK.out)
  rw[hr] at C
  have hm:=HR.out
  rw[hr,Lfc.PR.then_okE] at hm
  have HR:=Lib.hid hm
  obtain⟨hk16a,hk16b⟩:=FR.2.2 _ _ hr
  have HE16:=Lib.hid hr
  clear hr FR hm
  go_wp2_with (go_at_call 141;refine C.out.mono ?_;rintro e w16⟨⟨v16,rfl,rfl⟩,h16,o16⟩;have F16a:=Lib.hid (F15.out.call h16 o16))
  go_end0
  rw[HR.out]
  obtain⟨hPx,hIx⟩:=HPI.out
  exact(F16a.out.rebase OT12.out).ret { Lfc.Itm.new a with kind:=12,name:=n,left:=.node q4 r4 us4,rel:=1+i,right:=.node q12 r12 us12 } { IS.nil with le:=(A4,c4),ri:=(A12,c12) } (by simp only[itCells,List.setIfInBounds_toArray,List.set_cons_zero,List.set_cons_succ] <;> rfl) (((T12m0.out.oth2 F16a.out.oth hPx hIx).and (T12.out.oth2 F16a.out.oth hPx hIx)).imp fun W ⟨h,h'⟩=>{ ItV.nil W a with name:=HN.out,le:=h,ri:=h' })
 ·skip
  have hm:=HR.out
  rw[if_pos hz] at hm
  have HR:=Lib.hid hm
  clear hm
  have C:=Lib.hid (take_any 2 [61] s7 F7.out.pw (by omega) OK.out)
  simp only[hz,if_true,Bool.false_eq_true,if_false] at C
  have hk17a:k4+1≤p.toks.length:=Lfc.is_ltk (by decide) hz
  go_upto_region 5 with(go_at_call 139;refine C.out.mono ?_;rintro e w17⟨rfl,h17,o17⟩;have F17a:=Lib.hid (F7.out.call h17 o17);obtain⟨s18,u18,e18,y18,z18,F18⟩:=F17a.out.set 20 (.int .i64 3) (by decide))
  clear hz
  have hm:=HR.out
  rw[Lfc.PR.then_okE] at hm
  have HR:=Lib.hid hm
  clear hm
  have FR:=Lfc.fair_order p (k4+1) (by omega)
  rcases Lfc.PR.cases FR.1 with⟨cc,aa,hr⟩ | ⟨x19,k19,hr⟩
  ·have C:=Lib.hid (order_any p OK.out P (k4+1) G s18 (by omega) F18.out.pw)
   rw[hr] at C
   have hm:=HR.out
   rw[hr,Lfc.PR.then_errE] at hm
   have HM:=Lib.hid hm
   clear hr FR hm
   go_wp2_with (go_at_call 179;refine C.out.mono ?_;rintro e w19⟨rfl,o19⟩)
   rw[HM.out]
   exact⟨rfl,rfl,OT4.out.trans (F18.out.oth.trans (Oth2.left o19))⟩
  have C:=Lib.hid (order_any p OK.out P (k4+1) G s18 (by omega) F18.out.pw)
  rw[hr] at C
  have hm:=HR.out
  rw[hr,Lfc.PR.then_okE] at hm
  have HR:=Lib.hid hm
  obtain⟨hk19a,hk19b⟩:=FR.2.2 _ _ hr
  have HE19:=Lib.hid hr
  clear hr FR hm
  go_upto_region 6 with(go_at_call 179;refine C.out.mono ?_;rintro e w19⟨⟨v19,rfl,hv⟩,h19,o19⟩;have F19a:=Lib.hid (F18.out.call h19 o19);obtain⟨q19,r19,us19,A19,c19,ht19,rfl,hp19⟩:=OrdVP.parts3 hv;subst ht19;have T19:=order_stay (Nat.le_trans OT4.out.size F18.out.oth.size) hp19;have F19b:=Lib.hid F19a.out.again;have OT19:=Lib.hid (OT4.out.trans F19a.out.oth);have T19m0:=Lib.hid (T4.out.oth2 F19a.out.oth HPI.out.1 HPI.out.2);obtain⟨s20,u20,e20,y20,z20,F20⟩:=F19b.out.set 17 (.int .i64 q19) (by decide);obtain⟨s21,u21,e21,y21,z21,F21⟩:=F20.out.set 18 (.int .i64 r19) (by decide);obtain⟨s22,u22,e22,y22,z22,F22⟩:=F21.out.set 19 (.slice A19 us19.length c19) (by decide))
  clear hp19 hv
  have FR:=Lfc.fair_punct p k19 [46]
  rcases Lfc.PR.cases FR.1 with⟨cc,aa,hr⟩ | ⟨u,k23,hr⟩
  ·have C:=Lib.hid (punct_any [46] s22 F22.out.pw (by omega) OK.out)
   rw[hr] at C
   have hm:=HR.out
   rw[hr,Lfc.PR.then_errE] at hm
   have HM:=Lib.hid hm
   clear hr FR hm
   go_wp2_with (go_at_call 141;refine C.out.mono ?_;rintro e w23⟨rfl,o23⟩)
   rw[HM.out]
   exact⟨rfl,rfl,OT19.out.trans (F22.out.oth.trans (Oth2.left o23))⟩
  have C:=Lib.hid (punct_any [46] s22 F22.out.pw (by omega) OK.out)
  rw[hr] at C
  have hm:=HR.out
  rw[hr,Lfc.PR.then_okE] at hm
  have HR:=Lib.hid hm
  obtain⟨hk23a,hk23b⟩:=FR.2.2 _ _ hr
  have HE23:=Lib.hid hr
  clear hr FR hm
  go_wp2_with (go_at_call 141;refine C.out.mono ?_;rintro e w23⟨⟨v23,rfl,rfl⟩,h23,o23⟩;have F23a:=Lib.hid (F22.out.call h23 o23))
  go_end0
  rw[HR.out]
  obtain⟨hPx,hIx⟩:=HPI.out
  exact(F23a.out.rebase OT19.out).ret { Lfc.Itm.new a with kind:=12,name:=n,left:=.node q4 r4 us4,rel:=3,right:=.node q19 r19 us19 } { IS.nil with le:=(A4,c4),ri:=(A19,c19) } (by simp only[itCells,List.setIfInBounds_toArray,List.set_cons_zero,List.set_cons_succ] <;> rfl) (((T19m0.out.oth2 F23a.out.oth hPx hIx).and (T19.out.oth2 F23a.out.oth hPx hIx)).imp fun W ⟨h,h'⟩=>{ ItV.nil W a with name:=HN.out,le:=h,ri:=h' })
set_option maxRecDepth 100000 in
set_option maxHeartbeats 4000000 in
theorem terminates_any{P I k:Nat}{G:Hd}{p:Lfc.PE}(a:Nat)(w:World)(h:ItF w w P I G p k (itCells (Lfc.Itm.new a) IS.nil))(hk:k≤p.toks.length)(ok:POk p) :
  Calls Tryz.prog 134 #[.pointer (some ⟨P,0,none⟩),.pointer (some ⟨I,0,none⟩)] w (ItRes P I G p w (p.ordersP 10 (Lfc.Itm.new a) k)):=by
 have hlen:=ok.len
 have hP:=h.pw.lt
 have hI:=h.lt
 have OK:=Lib.hid ok
 have F0:=Lib.hid h
 have HPI:=Lib.hid (And.intro hP hI)
 obtain⟨M,hm⟩:∃M,p.ordersP 10 (Lfc.Itm.new a) k=M:=⟨_,rfl⟩
 rw[hm]
 have HR:=Lib.hid hm.symm
 clear h ok hm
 have FR:=Lfc.fair_orders p 10 (Lfc.Itm.new a) k hk
 have CC:=Lib.hid (orders_any 10 a w F0.out (by omega) OK.out)
 rcases Lfc.PR.cases FR.1 with⟨cc,aa,hr⟩ | ⟨x,k',hr⟩
 ·rw[hr] at CC
  have HM:=Lib.hid (HR.out.trans hr)
  clear hr FR
  go_enter Tryz.func134,Tryz.ntmps134
  go_wp2_with (go_at_call 178;refine CC.out.mono ?_;rintro e w1⟨rfl,HH⟩)
  rw[HM.out]
  exact⟨rfl,rfl,HH⟩
 ·rw[hr] at CC
  have HM:=Lib.hid (HR.out.trans hr)
  clear hr FR
  go_enter Tryz.func134,Tryz.ntmps134
  go_wp2_with (go_at_call 178;refine CC.out.mono ?_;rintro e w1⟨rfl,HH'⟩;have HH:=Lib.hid HH';clear HH')
  go_end0
  rw[HM.out]
  exact⟨rfl,HH.out⟩
set_option maxRecDepth 100000 in
set_option maxHeartbeats 4000000 in
theorem total_any{P I k:Nat}{G:Hd}{p:Lfc.PE}(a:Nat)(w:World)(h:ItF w w P I G p k (itCells (Lfc.Itm.new a) IS.nil))(hk:k≤p.toks.length)(ok:POk p) :
  Calls Tryz.prog 135 #[.pointer (some ⟨P,0,none⟩),.pointer (some ⟨I,0,none⟩)] w (ItRes P I G p w (p.ordersP 11 (Lfc.Itm.new a) k)):=by
 have hlen:=ok.len
 have hP:=h.pw.lt
 have hI:=h.lt
 have OK:=Lib.hid ok
 have F0:=Lib.hid h
 have HPI:=Lib.hid (And.intro hP hI)
 obtain⟨M,hm⟩:∃M,p.ordersP 11 (Lfc.Itm.new a) k=M:=⟨_,rfl⟩
 rw[hm]
 have HR:=Lib.hid hm.symm
 clear h ok hm
 have FR:=Lfc.fair_orders p 11 (Lfc.Itm.new a) k hk
 have CC:=Lib.hid (orders_any 11 a w F0.out (by omega) OK.out)
 rcases Lfc.PR.cases FR.1 with⟨cc,aa,hr⟩ | ⟨x,k',hr⟩
 ·rw[hr] at CC
  have HM:=Lib.hid (HR.out.trans hr)
  clear hr FR
  go_enter Tryz.func135,Tryz.ntmps135
  go_wp2_with (go_at_call 178;refine CC.out.mono ?_;rintro e w1⟨rfl,HH⟩)
  rw[HM.out]
  exact⟨rfl,rfl,HH⟩
 ·rw[hr] at CC
  have HM:=Lib.hid (HR.out.trans hr)
  clear hr FR
  go_enter Tryz.func135,Tryz.ntmps135
  go_wp2_with (go_at_call 178;refine CC.out.mono ?_;rintro e w1⟨rfl,HH'⟩;have HH:=Lib.hid HH';clear HH')
  go_end0
  rw[HM.out]
  exact⟨rfl,HH.out⟩
end Go.Proofs.YthajalgkjonaaaaGreatDoor
