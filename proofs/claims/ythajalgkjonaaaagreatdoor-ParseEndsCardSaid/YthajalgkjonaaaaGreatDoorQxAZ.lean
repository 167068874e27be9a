/- Parts of the proof that no input makes the law false: PaWld,PaWr,PaWt,ShelfI. -/
import Derived.Laws.EntriesVeiled
import Derived.Shelf.Strings.Builder1
import Derived.Shelf.Strings.Builder2
import Derived.Shelf.Strings.OnBuilder
import Derived.Shelf.Small.Strs
import Derived.Shelf.Strings.BuilderF
import Derived.Shelf.Strings.BuilderK
import Derived.Shelf.Strings.Builder2Cap
import Derived.Shelf.Strconv.Itoa0
import Derived.Shelf.Strconv.Itoa1
import Derived.Shelf.LaysM
import Derived.Shelf.Strconv.Itoa2
import Derived.Shelf.Strconv.Itoa3
import Derived.Shelf.Strings.Search1
import Derived.Shelf.Strings.Prefix
import Derived.Shelf.Strings.BuilderCap
import Derived.Shelf.Slices.Turned
import Derived.Ground.Names2Prog
import Derived.Shelf.Slices.Clone
import Derived.Test.YthajalgkjonaaaaGreatDoorShelf
import Derived.Test.YthajalgkjonaaaaGreatDoorQxAF
import Derived.Test.YthajalgkjonaaaaGreatDoorQxAG
import Derived.Test.YthajalgkjonaaaaGreatDoorQxAO
import Derived.Test.YthajalgkjonaaaaGreatDoorQxAR
import Derived.Test.YthajalgkjonaaaaGreatDoorQxAT
import Derived.Test.YthajalgkjonaaaaGreatDoorQxAV
set_option linter.unusedVariables false
set_option linter.unusedSimpArgs false
namespace Go.Proofs.YthajalgkjonaaaaGreatDoor
open Go.RowKit
theorem str_infoP:∃i,Tryz.prog.info? 9=some i∧i.zero=some (S [])∧i.size=1∧i.bytes=16:=by
 obtain⟨i0,hi,hz0,hz1,hz2⟩:=info_parts (show(Tryz.prog.info? 9).map (fun i=>(i.zero,i.size,i.bytes))=some (some (S []),1,16) by kernel_rfl)
 exact⟨i0,hi,hz0,hz1,hz2⟩
set_option maxRecDepth 100000 in
set_option maxHeartbeats 4000000 in
theorem worlds_any{P I k:Nat}{G:Hd}{p:Lfc.PE}(a:Nat)(w:World)(h:ItF w w P I G p k (itCells (Lfc.Itm.new a) IS.nil))(hk:k≤p.toks.length)(ok:POk p) :
  Calls Tryz.prog 129 #[.pointer (some ⟨P,0,none⟩),.pointer (some ⟨I,0,none⟩)] w (ItRes P I G p w (p.worldsP (Lfc.Itm.new a) k)):=by
 have hlen:=ok.len
 have hP:=h.pw.lt
 have hI:=h.lt
 have OK:=Lib.hid ok
 have F0:=Lib.hid h
 have HPI:=Lib.hid (And.intro hP hI)
 obtain⟨M,hm⟩:∃M,p.worldsP (Lfc.Itm.new a) k=M:=⟨_,rfl⟩
 rw[hm]
 have HR:=Lib.hid hm.symm
 have HNEM:=Lib.hid hm
 unfold Lfc.PE.worldsP at HR
 clear h ok hm
 obtain⟨iz,hi,hz0,hz1,hz2⟩:=str_infoP
 have HNE:Hid (M≠.out):=Lib.hid (by have:=(Lfc.fair_worlds p (Lfc.Itm.new a) k).1;rw[HNEM.out] at this;exact this)
 obtain⟨s1,u1,e1,y1,z1,F1⟩:=F0.out.set 0 (.int .i64 5) (by decide)
 go_enter Tryz.func129,Tryz.ntmps129
 go_upto_region 1 with fail
 have FR:=Lfc.fair_punct p k [40]
 rcases Lfc.PR.cases FR.1 with⟨cc,aa,hr⟩ | ⟨u,k2,hr⟩
 ·have C:=Lib.hid (punct_any [40] s1 F1.out.pw (by omega) OK.out)
  rw[hr] at C
  have hm:=HR.out
  rw[hr,Lfc.PR.then_errE] at hm
  have HM:=Lib.hid hm
  clear hr FR hm
  go_wp2_with (go_at_call 141;refine C.out.mono ?_;rintro e w2⟨rfl,o2⟩)
  rw[HM.out]
  exact⟨rfl,rfl,(Oth2.refl P I w).trans (F1.out.oth.trans (Oth2.left o2))⟩
 have C:=Lib.hid (punct_any [40] s1 F1.out.pw (by omega) OK.out)
 rw[hr] at C
 have hm:=HR.out
 rw[hr,Lfc.PR.then_okE] at hm
 have HR:=Lib.hid hm
 obtain⟨hk2a,hk2b⟩:=FR.2.2 _ _ hr
 have HE2:=Lib.hid hr
 clear hr FR hm
 go_upto_region 2 with(go_at_call 141;refine C.out.mono ?_;rintro e w2⟨⟨v2,rfl,rfl⟩,h2,o2⟩;have F2a:=Lib.hid (F1.out.call h2 o2))
 have hsz:=F2a.out.oth.size
 obtain⟨hPx,hIx⟩:=HPI.out
 obtain⟨base,hbase⟩:∃base,w2.heap.size=base:=⟨_,rfl⟩
 have HPB:Hid (P<base∧I<base∧w.heap.size≤base):=Lib.hid ⟨by omega,by omega,by omega⟩
 obtain⟨CS,hCS⟩:∃CS,(itCells (Lfc.Itm.new a) IS.nil).setIfInBounds 0 (.int .i64 5)=CS:=⟨_,rfl⟩
 have L0:Hid (LsF w w2 P I base G p k2 CS 10 9 1 0 [] none 0):=Lib.hid (by rw[←hCS];exact LsF.start F2a.out rfl)
 have HCS:=Lib.hid hCS
 have hbr0:base≤w2.heap.size:=Nat.le_of_eq hbase.symm
 clear hCS hsz hbase
 have CI:=Lib.hid (isName_at w2 L0.out.f.pw (by omega) OK.out)
 go_upto_if 10 with(go_at_call 72;refine CI.out.mono ?_;rintro e wn⟨rfl,bn⟩)
 have on:Oth P w2 wn:=Oth.of_below bn
 have LN:=Lib.hid (L0.out.call HPB.out.1 (L0.out.f.pw.below bn) on)
 have hbr:base≤wn.heap.size:=Nat.le_trans hbr0 bn.size
 clear L0 bn on CI
 go_cut [] (fun wx=>∃(bs:List (List UInt8))(k2:Nat)(A:Option Addr)(c:Nat),k2≤p.toks.length∧bs.length≤k2∧Hid (∀s∈bs,s.length≤1000000)∧Hid (M=(p.punct k2 [41]).then fun _ k3=>(p.name k3).then fun n k4=>(Lfc.namesF p (p.toks.length+1) k4 [n]).then fun fs k5=>(p.punct k5 [46]).then fun _ k6=>.ok ({ Lfc.Itm.new a with kind:=5,blocks:=bs,fams:=fs },p.ops) k6)∧Hid (LsF w wx P I base G p k2 CS 10 9 1 bs.length (bs.map S) A c)∧base≤wx.heap.size)
 case first =>
  cases hz:p.isNm k2
  ·have hm:=HR.out
   rw[if_neg (by rw[hz];decide)] at hm
   have HM:Hid (M=(p.punct k2 [41]).then fun _ k3=>(p.name k3).then fun n k4=>(Lfc.namesF p (p.toks.length+1) k4 [n]).then fun fs k5=>(p.punct k5 [46]).then fun _ k6=>.ok ({ Lfc.Itm.new a with kind:=5,blocks:=[],fams:=fs },p.ops) k6):=Lib.hid hm
   clear hm
   go_wp2_with fail
   go_meet
   exact⟨[],k2,none,0,by omega,by simp,Lib.hid (by simp),HM,LN,hbr⟩
  ·have hm:=HR.out
   rw[if_pos hz] at hm
   have HM:Hid (M=(p.name k2).then fun n k2=>(Lfc.barsF p (p.toks.length+1) k2 ([]++[n])).then fun bs k2=>(p.punct k2 [41]).then fun _ k3=>(p.name k3).then fun n k4=>(Lfc.namesF p (p.toks.length+1) k4 [n]).then fun fs k5=>(p.punct k5 [46]).then fun _ k6=>.ok ({ Lfc.Itm.new a with kind:=5,blocks:=bs,fams:=fs },p.ops) k6):=Lib.hid (by rw[hm];cases p.name k2 <;> rfl)
   have hklt:=Lfc.PE.nm_lt hz
   clear hm
   obtain⟨acc,hacc⟩:∃acc:List (List UInt8),acc=[]:=⟨_,rfl⟩
   obtain⟨A,c,hA,hc0⟩:∃(A:Option Addr)(c:Nat),A=none∧c=0:=⟨_,_,rfl,rfl⟩
   have LA:Hid (LsF w wn P I base G p k2 CS 10 9 1 acc.length (acc.map S) A c):=Lib.hid (by rw[hacc,hA,hc0];exact LN.out)
   have HM:Hid (M=(p.name k2).then fun n k2=>(Lfc.barsF p (p.toks.length+1) k2 (acc++[n])).then fun bs k2=>(p.punct k2 [41]).then fun _ k3=>(p.name k3).then fun n k4=>(Lfc.namesF p (p.toks.length+1) k4 [n]).then fun fs k5=>(p.punct k5 [46]).then fun _ k6=>.ok ({ Lfc.Itm.new a with kind:=5,blocks:=bs,fams:=fs },p.ops) k6):=Lib.hid (by rw[hacc];exact HM.out)
   have hal:acc.length≤k2:=by rw[hacc];simp
   have HAL:Hid (∀s∈acc,s.length≤1000000):=Lib.hid (by rw[hacc];simp)
   clear hacc hA hc0 LN
   go_upto_region 3 with fail
   have CWD:=name_at wn.drew (LA.out.f.pw.drew) (by omega) OK.out
   have FR:=Lfc.fair_name p k2
   have y7:wn.cell? ⟨I,10,none⟩=some (.slice A acc.length c):=LA.out.cell (by decide) (Oth.refl _ _)
   have y7d:wn.drew.cell? ⟨I,10,none⟩=some (.slice A acc.length c):=y7
   have o7d:Oth P wn wn.drew:=(Oth.refl _ _).drew
   rcases Lfc.PR.cases FR.1 with⟨cc,aa,hr⟩ | ⟨nw,k9,hr⟩
   ·rw[hr] at CWD
    have CE:=Lib.hid CWD
    have HF:Hid (M=.err cc aa):=Lib.hid (by rw[HM.out,hr];rfl)
    have O8:=Lib.hid (LA.out.f.oth.trans (Oth2.left o7d))
    clear CWD hr FR o7d
    as_aux_lemma =>
     refine wp_region_held_drew (S:=fun W=>W.cell? ⟨I,10,none⟩=some (.slice A acc.length c)) (by kernel_rfl) y7d (fun hHeld=>?_)
     refine tk 0 ?_
     refine tk 1 ?_
     refine tk 2 ?_
     refine tk 3 ?_
     refine tk 4 ?_
     refine tk 5 ?_
     refine wpAnyH_ready (rs:=[6]) (by kernel_rfl) (by simp) (AllReadyH.cons rfl (fun K hK=>?_) AllReadyH.nil)
     go_simp
     go_at_call 138
     refine CE.out.mono ?_
     rintro e w9⟨rfl,o9⟩
     go_simp
     go_wp2_with fail
     rw[HF.out]
     exact⟨rfl,rfl,(O8.out.trans (Oth2.left o9))⟩
   ·have hnw:=name_le OK.out hr
    rw[hr] at CWD
    have CE:=Lib.hid CWD
    have hb9:=FR.2.2 _ _ hr
    have HM9:Hid (M=(Lfc.barsF p (p.toks.length+1) k9 (acc++[nw])).then fun bs k2=>(p.punct k2 [41]).then fun _ k3=>(p.name k3).then fun n k4=>(Lfc.namesF p (p.toks.length+1) k4 [n]).then fun fs k5=>(p.punct k5 [46]).then fun _ k6=>.ok ({ Lfc.Itm.new a with kind:=5,blocks:=bs,fams:=fs },p.ops) k6):=Lib.hid (by rw[HM.out,hr];rfl)
    have HLM:Hid (acc.length+1≤maxLen∧(acc.length+1)*16≤140737488355328):=Lib.hid ⟨by unfold maxLen;omega,by omega⟩
    have OW8:=Lib.hid (LA.out.call HPB.out.1 LA.out.f.pw.drew o7d)
    have hs8:base≤wn.drew.heap.size:=hbr
    clear CWD hr FR o7d
    go_region_law (first
     |(go_simp;go_at_call 138;refine CE.out.mono ?_;rintro e w9⟨⟨v9,rfl,rfl⟩,h9,o9⟩;have L9:=OW8.out.call HPB.out.1 h9 o9;have hown9:=L9.own;have y9:w9.cell? ⟨I,10,none⟩=some (.slice A acc.length c):=L9.cell (by decide) (Oth.refl _ _);have y9a:∀o,(w9.alloc o).cell? ⟨I,10,none⟩=some (.slice A acc.length c):=(fun o=>L9.cell (by decide) (Oth.of_below ((Below.refl _ _).alloc (Nat.le_refl _) o)));have hs9:base≤w9.heap.size:=(by have:=o9.size;omega))
     |(refine step_append_own_at _ (by rfl) _ _ 36 (by rfl) base 9 iz (S []) 1 16 Tryz.underlying36 hi hz0 hz1 hz2 rfl (by decide) _ _ _ (by rfl) (hown9.alloc _) ⟨w9.heap.size,0,none⟩ 1 1 [S nw] (by rfl) (by rfl) (fun jj u h=>cells_new w9 _ rfl [S nw] _ jj u h) (by intro u hu;simp at hu;subst hu;rfl) HLM.out.1 HLM.out.2 (alloc_le hs9) ?_;intro v' w10 hown10 hg10 hloc10;obtain⟨A10,c10,rfl⟩:=own_form hown10;obtain⟨⟨y10,f10⟩,L10,U10⟩:=L9.push (by decide) HPB.out.1 HPB.out.2.1 HPB.out.2.2 L9.f.pw (Oth.refl _ _) ((Below.refl _ _).alloc (Nat.le_refl _) _) hown10 hg10 (by simpa using hloc10)))
    all_goals
     have HNX:=Lib.hid L10
     have U10s:=U10.size
     have hs10:=Nat.le_trans hs9 U10s
     clear hown9 hown10 hg10 hloc10 L10 U10 L9
     have HAL2:Hid (∀s∈acc++[nw],s.length≤1000000):=Lib.hid (fun s hs=>by
      rcases List.mem_append.1 hs with hs | hs
      ·exact HAL.out s hs
      ·simp at hs;subst hs;exact hnw)
     go_wp2_with fail
     go_loopw [] (fun wr=>∃(f kk:Nat)(l:List (List UInt8))(A:Option Addr)(c:Nat),kk≤p.toks.length∧l.length≤kk∧Hid (∀s∈l,s.length≤1000000)∧Hid (M=(Lfc.barsF p f kk l).then fun bs k2=>(p.punct k2 [41]).then fun _ k3=>(p.name k3).then fun n k4=>(Lfc.namesF p (p.toks.length+1) k4 [n]).then fun fs k5=>(p.punct k5 [46]).then fun _ k6=>.ok ({ Lfc.Itm.new a with kind:=5,blocks:=bs,fams:=fs },p.ops) k6)∧Hid (LsF w wr P I base G p kk CS 10 9 1 l.length (l.map S) A c)∧base≤wr.heap.size) (fun wr=>30000-cellLen I 10 wr)
     case atStart=>exact⟨p.toks.length+1,k9,acc++[nw],A10,c10,hb9.2,by have:=hb9.1;simp;omega,HAL2,HM9,by simpa using HNX,hs10⟩
     case round =>
      clear HM9 HNX HAL HAL2 HM LA
      obtain⟨f,kk,l,A,c,hkk,hll,HAL,HM0,HL,hbr⟩:=hrel
      obtain _ | f:=f
      ·exact absurd HM0.out HNE.out
      have hm:=HM0.out
      rw[Lfc.barsF] at hm
      have CT:=Lib.hid (take_any 1 [124] wr HL.out.f.pw hkk OK.out)
      cases hq2:p.is kk 1 [124]
      ·rw[if_neg (by rw[hq2];decide)] at hm
       simp only[hq2,if_true,Bool.false_eq_true,if_false] at CT
       have HM1:Hid (M=(p.punct kk [41]).then fun _ k3=>(p.name k3).then fun n k4=>(Lfc.namesF p (p.toks.length+1) k4 [n]).then fun fs k5=>(p.punct k5 [46]).then fun _ k6=>.ok ({ Lfc.Itm.new a with kind:=5,blocks:=l,fams:=fs },p.ops) k6):=Lib.hid hm
       clear hm
       as_aux_lemma =>
        go_wp2_with (go_at_call 139;refine CT.out.mono ?_;rintro e w7⟨rfl,h7,o7⟩)
        have L7:=Lib.hid (HL.out.call HPB.out.1 h7 o7)
        have hb7:base≤w7.heap.size:=Nat.le_trans hbr o7.size
        go_meet
        exact⟨l,kk,A,c,hkk,hll,HAL,HM1,L7,hb7⟩
      ·rw[if_pos hq2] at hm
       simp only[hq2,if_true,Bool.false_eq_true,if_false] at CT
       have HM:Hid (M=(p.name (kk+1)).then fun n k2=>(Lfc.barsF p f k2 (l++[n])).then fun bs k2=>(p.punct k2 [41]).then fun _ k3=>(p.name k3).then fun n k4=>(Lfc.namesF p (p.toks.length+1) k4 [n]).then fun fs k5=>(p.punct k5 [46]).then fun _ k6=>.ok ({ Lfc.Itm.new a with kind:=5,blocks:=bs,fams:=fs },p.ops) k6):=Lib.hid (by rw[hm];cases p.name (kk+1) <;> rfl)
       have hklt:=Lfc.is_ltk (by decide) hq2
       clear hm HM0
       go_upto_region 5 with(go_at_call 139;refine CT.out.mono ?_;rintro e w7⟨rfl,h7,o7⟩)
       have L7:=Lib.hid (HL.out.call HPB.out.1 h7 o7)
       have hbr:base≤w7.heap.size:=Nat.le_trans hbr o7.size
       have HLEN:=Lib.hid (cellLen_eq (HL.out.cell (by decide) (Oth.refl _ _)))
       clear HL h7 o7 CT
       have CWD:=name_at w7.drew (L7.out.f.pw.drew) (by omega) OK.out
       have FR:=Lfc.fair_name p (kk+1)
       have y7:w7.cell? ⟨I,10,none⟩=some (.slice A l.length c):=L7.out.cell (by decide) (Oth.refl _ _)
       have y7d:w7.drew.cell? ⟨I,10,none⟩=some (.slice A l.length c):=y7
       have o7d:Oth P w7 w7.drew:=(Oth.refl _ _).drew
       rcases Lfc.PR.cases FR.1 with⟨cc,aa,hr⟩ | ⟨nw,k9,hr⟩
       ·rw[hr] at CWD
        have CE:=Lib.hid CWD
        have HF:Hid (M=.err cc aa):=Lib.hid (by rw[HM.out,hr];rfl)
        have O8:=Lib.hid (L7.out.f.oth.trans (Oth2.left o7d))
        clear CWD hr FR o7d
        as_aux_lemma =>
         refine wp_region_held_drew (S:=fun W=>W.cell? ⟨I,10,none⟩=some (.slice A l.length c)) (by kernel_rfl) y7d (fun hHeld=>?_)
         refine tk 0 ?_
         refine tk 1 ?_
         refine tk 2 ?_
         refine tk 3 ?_
         refine tk 4 ?_
         refine tk 5 ?_
         refine wpAnyH_ready (rs:=[6]) (by kernel_rfl) (by simp) (AllReadyH.cons rfl (fun K hK=>?_) AllReadyH.nil)
         go_simp
         go_at_call 138
         refine CE.out.mono ?_
         rintro e w9⟨rfl,o9⟩
         go_simp
         go_wp2_with fail
         rw[HF.out]
         exact⟨rfl,rfl,(O8.out.trans (Oth2.left o9))⟩
       ·have hnw:=name_le OK.out hr
        rw[hr] at CWD
        have CE:=Lib.hid CWD
        have hb9:=FR.2.2 _ _ hr
        have HM9:Hid (M=(Lfc.barsF p f k9 (l++[nw])).then fun bs k2=>(p.punct k2 [41]).then fun _ k3=>(p.name k3).then fun n k4=>(Lfc.namesF p (p.toks.length+1) k4 [n]).then fun fs k5=>(p.punct k5 [46]).then fun _ k6=>.ok ({ Lfc.Itm.new a with kind:=5,blocks:=bs,fams:=fs },p.ops) k6):=Lib.hid (by rw[HM.out,hr];rfl)
        have HLM:Hid (l.length+1≤maxLen∧(l.length+1)*16≤140737488355328):=Lib.hid ⟨by unfold maxLen;omega,by omega⟩
        have OW8:=Lib.hid (L7.out.call HPB.out.1 L7.out.f.pw.drew o7d)
        have hs8:base≤w7.drew.heap.size:=hbr
        clear CWD hr FR o7d
        go_region_law (first
         |(go_simp;go_at_call 138;refine CE.out.mono ?_;rintro e w9⟨⟨v9,rfl,rfl⟩,h9,o9⟩;have L9:=OW8.out.call HPB.out.1 h9 o9;have hown9:=L9.own;have y9:w9.cell? ⟨I,10,none⟩=some (.slice A l.length c):=L9.cell (by decide) (Oth.refl _ _);have y9a:∀o,(w9.alloc o).cell? ⟨I,10,none⟩=some (.slice A l.length c):=(fun o=>L9.cell (by decide) (Oth.of_below ((Below.refl _ _).alloc (Nat.le_refl _) o)));have hs9:base≤w9.heap.size:=(by have:=o9.size;omega))
         |(refine step_append_own_at _ (by rfl) _ _ 36 (by rfl) base 9 iz (S []) 1 16 Tryz.underlying36 hi hz0 hz1 hz2 rfl (by decide) _ _ _ (by rfl) (hown9.alloc _) ⟨w9.heap.size,0,none⟩ 1 1 [S nw] (by rfl) (by rfl) (fun jj u h=>cells_new w9 _ rfl [S nw] _ jj u h) (by intro u hu;simp at hu;subst hu;rfl) HLM.out.1 HLM.out.2 (alloc_le hs9) ?_;intro v' w10 hown10 hg10 hloc10;obtain⟨A10,c10,rfl⟩:=own_form hown10;obtain⟨⟨y10,f10⟩,L10,U10⟩:=L9.push (by decide) HPB.out.1 HPB.out.2.1 HPB.out.2.2 L9.f.pw (Oth.refl _ _) ((Below.refl _ _).alloc (Nat.le_refl _) _) hown10 hg10 (by simpa using hloc10)))
        all_goals
         have HNX:=Lib.hid L10
         have U10s:=U10.size
         have hs10:=Nat.le_trans hs9 U10s
         clear hown9 hown10 hg10 hloc10 L10 U10 L9
         have HAL2:Hid (∀s∈l++[nw],s.length≤1000000):=Lib.hid (fun s hs=>by
          rcases List.mem_append.1 hs with hs | hs
          ·exact HAL.out s hs
          ·simp at hs;subst hs;exact hnw)
         go_wp2_with fail
         go_roundw
         case rel=>exact⟨f,k9,l++[nw],A10,c10,hb9.2,by have:=hb9.1;simp;omega,HAL2,HM9,by simpa using HNX,hs10⟩
         case measure=>rw[cellLen_eq (HNX.out.cell (by decide) (Oth.refl _ _)),HLEN.out];omega
 case rest =>
  obtain⟨bs,k2,Ab,cb,hk2,hbl,HBL,HM,LB,hbr⟩:=hcut
  have FB:=Lib.hid LB.out.f.again
  have OB:=Lib.hid LB.out.f.oth
  have SB:=Lib.hid (own_stays LB.out.own (Nat.le_refl _))
  have HR:=HM
  have HPB0:=HPB
  have hIx:=LB.out.f.lt
  have hPx:=LB.out.f.pw.lt
  clear HM LB HPB
  have FR:=Lfc.fair_punct p k2 [41]
  rcases Lfc.PR.cases FR.1 with⟨cc,aa,hr⟩ | ⟨u2,k3,hr⟩
  ·have C:=Lib.hid (punct_any [41] wc FB.out.pw (by omega) OK.out)
   rw[hr] at C
   have hm:=HR.out
   rw[hr,Lfc.PR.then_errE] at hm
   have HM:=Lib.hid hm
   clear hr FR hm
   go_wp2_with (go_at_call 141;refine C.out.mono ?_;rintro e w3⟨rfl,o3⟩)
   rw[HM.out]
   exact⟨rfl,rfl,OB.out.trans (FB.out.oth.trans (Oth2.left o3))⟩
  have C:=Lib.hid (punct_any [41] wc FB.out.pw (by omega) OK.out)
  rw[hr] at C
  have hm:=HR.out
  rw[hr,Lfc.PR.then_okE] at hm
  have HR:=Lib.hid hm
  obtain⟨hk3a,hk3b⟩:=FR.2.2 _ _ hr
  have HE3:=Lib.hid hr
  clear hr FR hm
  go_upto_region 7 with(go_at_call 141;refine C.out.mono ?_;rintro e w3⟨⟨v3,rfl,rfl⟩,h3,o3⟩;have F3a:=Lib.hid (FB.out.call h3 o3))
  have hsz:=F3a.out.oth.size
  obtain⟨base2,hbase⟩:∃base2,w3.heap.size=base2:=⟨_,rfl⟩
  have HPB:Hid (P<base2∧I<base2∧wc.heap.size≤base2):=Lib.hid ⟨by omega,by omega,by omega⟩
  obtain⟨CS2,hCS2⟩:∃CS2,CS.setIfInBounds 10 (.slice Ab bs.length cb)=CS2:=⟨_,rfl⟩
  have HCS2:=Lib.hid hCS2
  obtain⟨acc,hacc⟩:∃acc:List (List UInt8),acc=[]:=⟨_,rfl⟩
  obtain⟨A,c,hA,hc0⟩:∃(A:Option Addr)(c:Nat),A=none∧c=0:=⟨_,_,rfl,rfl⟩
  have LA:Hid (LsF wc w3 P I base2 G p k3 CS2 11 9 1 acc.length (acc.map S) A c):=Lib.hid (by rw[hacc,hA,hc0,←hCS2];exact LsF.start F3a.out (by rw[←HCS.out];rfl))
  have hbr:base2≤w3.heap.size:=Nat.le_of_eq hbase.symm
  have HM:Hid (M=(p.name k3).then fun n k2=>(Lfc.namesF p (p.toks.length+1) k2 (acc++[n])).then fun fs k5=>(p.punct k5 [46]).then fun _ k6=>.ok ({ Lfc.Itm.new a with kind:=5,blocks:=bs,fams:=fs },p.ops) k6):=Lib.hid (by rw[hacc];exact HR.out)
  have hal:acc.length≤k3:=by rw[hacc];simp
  have HAL:Hid (∀s∈acc,s.length≤1000000):=Lib.hid (by rw[hacc];simp)
  clear hacc hA hc0 hbase hCS2 hsz HR F3a FB
  have CWD:=name_at w3.drew (LA.out.f.pw.drew) (by omega) OK.out
  have FR:=Lfc.fair_name p k3
  have y7:w3.cell? ⟨I,11,none⟩=some (.slice A acc.length c):=LA.out.cell (by decide) (Oth.refl _ _)
  have y7d:w3.drew.cell? ⟨I,11,none⟩=some (.slice A acc.length c):=y7
  have o7d:Oth P w3 w3.drew:=(Oth.refl _ _).drew
  rcases Lfc.PR.cases FR.1 with⟨cc,aa,hr⟩ | ⟨nw,k9,hr⟩
  ·rw[hr] at CWD
   have CE:=Lib.hid CWD
   have HF:Hid (M=.err cc aa):=Lib.hid (by rw[HM.out,hr];rfl)
   have O8:=Lib.hid (LA.out.f.oth.trans (Oth2.left o7d))
   clear CWD hr FR o7d
   as_aux_lemma =>
    refine wp_region_held_drew (S:=fun W=>W.cell? ⟨I,11,none⟩=some (.slice A acc.length c)) (by kernel_rfl) y7d (fun hHeld=>?_)
    refine tk 0 ?_
    refine tk 1 ?_
    refine tk 2 ?_
    refine tk 3 ?_
    refine tk 4 ?_
    refine tk 5 ?_
    refine wpAnyH_ready (rs:=[6]) (by kernel_rfl) (by simp) (AllReadyH.cons rfl (fun K hK=>?_) AllReadyH.nil)
    go_simp
    go_at_call 138
    refine CE.out.mono ?_
    rintro e w9⟨rfl,o9⟩
    go_simp
    go_wp2_with fail
    rw[HF.out]
    exact⟨rfl,rfl,OB.out.trans (O8.out.trans (Oth2.left o9))⟩
  ·have hnw:=name_le OK.out hr
   rw[hr] at CWD
   have CE:=Lib.hid CWD
   have hb9:=FR.2.2 _ _ hr
   have HM9:Hid (M=(Lfc.namesF p (p.toks.length+1) k9 (acc++[nw])).then fun fs k5=>(p.punct k5 [46]).then fun _ k6=>.ok ({ Lfc.Itm.new a with kind:=5,blocks:=bs,fams:=fs },p.ops) k6):=Lib.hid (by rw[HM.out,hr];rfl)
   have HLM:Hid (acc.length+1≤maxLen∧(acc.length+1)*16≤140737488355328):=Lib.hid ⟨by unfold maxLen;omega,by omega⟩
   have OW8:=Lib.hid (LA.out.call HPB.out.1 LA.out.f.pw.drew o7d)
   have hs8:base2≤w3.drew.heap.size:=hbr
   clear CWD hr FR o7d
   go_region_law (first
    |(go_simp;go_at_call 138;refine CE.out.mono ?_;rintro e w9⟨⟨v9,rfl,rfl⟩,h9,o9⟩;have L9:=OW8.out.call HPB.out.1 h9 o9;have hown9:=L9.own;have y9:w9.cell? ⟨I,11,none⟩=some (.slice A acc.length c):=L9.cell (by decide) (Oth.refl _ _);have y9a:∀o,(w9.alloc o).cell? ⟨I,11,none⟩=some (.slice A acc.length c):=(fun o=>L9.cell (by decide) (Oth.of_below ((Below.refl _ _).alloc (Nat.le_refl _) o)));have hs9:base2≤w9.heap.size:=(by have:=o9.size;omega))
    |(refine step_append_own_at _ (by rfl) _ _ 36 (by rfl) base2 9 iz (S []) 1 16 Tryz.underlying36 hi hz0 hz1 hz2 rfl (by decide) _ _ _ (by rfl) (hown9.alloc _) ⟨w9.heap.size,0,none⟩ 1 1 [S nw] (by rfl) (by rfl) (fun jj u h=>cells_new w9 _ rfl [S nw] _ jj u h) (by intro u hu;simp at hu;subst hu;rfl) HLM.out.1 HLM.out.2 (alloc_le hs9) ?_;intro v' w10 hown10 hg10 hloc10;obtain⟨A10,c10,rfl⟩:=own_form hown10;obtain⟨⟨y10,f10⟩,L10,U10⟩:=L9.push (by decide) HPB.out.1 HPB.out.2.1 HPB.out.2.2 L9.f.pw (Oth.refl _ _) ((Below.refl _ _).alloc (Nat.le_refl _) _) hown10 hg10 (by simpa using hloc10)))
   all_goals
    have HNX:=Lib.hid L10
    have U10s:=U10.size
    have hs10:=Nat.le_trans hs9 U10s
    clear hown9 hown10 hg10 hloc10 L10 U10 L9
    have HAL2:Hid (∀s∈acc++[nw],s.length≤1000000):=Lib.hid (fun s hs=>by
     rcases List.mem_append.1 hs with hs | hs
     ·exact HAL.out s hs
     ·simp at hs;subst hs;exact hnw)
    go_wp2_with fail
    go_loopw [] (fun wr=>∃(f kk:Nat)(l:List (List UInt8))(A:Option Addr)(c:Nat),kk≤p.toks.length∧l.length≤kk∧Hid (∀s∈l,s.length≤1000000)∧Hid (M=(Lfc.namesF p f kk l).then fun fs k5=>(p.punct k5 [46]).then fun _ k6=>.ok ({ Lfc.Itm.new a with kind:=5,blocks:=bs,fams:=fs },p.ops) k6)∧Hid (LsF wc wr P I base2 G p kk CS2 11 9 1 l.length (l.map S) A c)∧base2≤wr.heap.size) (fun wr=>30000-cellLen I 11 wr)
    case atStart=>exact⟨p.toks.length+1,k9,acc++[nw],A10,c10,hb9.2,by have:=hb9.1;simp;omega,HAL2,HM9,by simpa using HNX,hs10⟩
    case round =>
     clear HM9 HNX HAL HAL2 HM LA
     obtain⟨f,kk,l,A,c,hkk,hll,HAL,HM0,HL,hbr⟩:=hrel
     obtain _ | f:=f
     ·exact absurd HM0.out HNE.out
     have hm:=HM0.out
     rw[Lfc.namesF] at hm
     have CI:=Lib.hid (isName_at wr HL.out.f.pw hkk OK.out)
     cases hq2:p.isNm kk
     ·rw[if_neg (by rw[hq2];decide)] at hm
      rw[hq2] at CI
      have HR:Hid (M=(p.punct kk [46]).then fun _ k6=>.ok ({ Lfc.Itm.new a with kind:=5,blocks:=bs,fams:=l },p.ops) k6):=Lib.hid hm
      clear hm
      as_aux_lemma =>
       go_upto_region 10 with(go_at_call 72;refine CI.out.mono ?_;rintro e w7⟨rfl,b7⟩)
       have o7:Oth P wr w7:=Oth.of_below b7
       have L7:=Lib.hid (HL.out.call HPB.out.1 (HL.out.f.pw.below b7) o7)
       have F7:=Lib.hid L7.out.f
       clear HL b7 o7 CI
       have FR:=Lfc.fair_punct p kk [46]
       rcases Lfc.PR.cases FR.1 with⟨cc,aa,hr⟩ | ⟨u3,k4,hr⟩
       ·have C:=Lib.hid (punct_any [46] w7 F7.out.pw (by omega) OK.out)
        rw[hr] at C
        have hm:=HR.out
        rw[hr,Lfc.PR.then_errE] at hm
        have HM:=Lib.hid hm
        clear hr FR hm
        go_wp2_with (go_at_call 141;refine C.out.mono ?_;rintro e w4⟨rfl,o4⟩)
        rw[HM.out]
        exact⟨rfl,rfl,OB.out.trans (F7.out.oth.trans (Oth2.left o4))⟩
       have C:=Lib.hid (punct_any [46] w7 F7.out.pw (by omega) OK.out)
       rw[hr] at C
       have hm:=HR.out
       rw[hr,Lfc.PR.then_okE] at hm
       have HR:=Lib.hid hm
       obtain⟨hk4a,hk4b⟩:=FR.2.2 _ _ hr
       have HE4:=Lib.hid hr
       clear hr FR hm
       go_wp2_with (go_at_call 141;refine C.out.mono ?_;rintro e w4⟨⟨v4,rfl,rfl⟩,h4,o4⟩;have F4a:=Lib.hid (F7.out.call h4 o4))
       go_end0
       rw[HR.out]
       have L8:=L7.out.call HPB.out.1 h4 o4
       have S1:=own_stays (lo:=w.heap.size) (SB.out w4 F4a.out.oth.size (fun b h1 h2=>F4a.out.oth.block b h2 (by have:=HPB0.out.1;omega) (by have:=HPB0.out.2.1;omega))) HPB0.out.2.2
       have S2:=own_stays (lo:=w.heap.size) L8.own (Nat.le_trans OB.out.size HPB.out.2.2)
       refine(L8.f.rebase OB.out).ret { Lfc.Itm.new a with kind:=5,blocks:=bs,fams:=l } { IS.nil with bl:=(Ab,cb),fa:=(A,c) } ?_ (fun W h1 h2=>{ ItV.nil W a with bl:=⟨strs_own (S1 W h1 h2) rfl,own_cap (S1 W h1 h2)⟩,fa:=⟨strs_own (S2 W h1 h2) rfl,own_cap (S2 W h1 h2)⟩ })
       rw[←HCS2.out,←HCS.out]
       rfl
     ·rw[if_pos hq2] at hm
      rw[hq2] at CI
      have HM:Hid (M=(p.name kk).then fun n k2=>(Lfc.namesF p f k2 (l++[n])).then fun fs k5=>(p.punct k5 [46]).then fun _ k6=>.ok ({ Lfc.Itm.new a with kind:=5,blocks:=bs,fams:=fs },p.ops) k6):=Lib.hid (by rw[hm];cases p.name kk <;> rfl)
      have hklt:=Lfc.PE.nm_lt hq2
      clear hm HM0
      go_upto_region 9 with(go_at_call 72;refine CI.out.mono ?_;rintro e w7⟨rfl,b7⟩)
      have o7:Oth P wr w7:=Oth.of_below b7
      have L7:=Lib.hid (HL.out.call HPB.out.1 (HL.out.f.pw.below b7) o7)
      have hbr:base2≤w7.heap.size:=Nat.le_trans hbr b7.size
      have HLEN:=Lib.hid (cellLen_eq (HL.out.cell (by decide) (Oth.refl _ _)))
      clear HL b7 o7 CI
      have CWD:=name_at w7.drew (L7.out.f.pw.drew) (by omega) OK.out
      have FR:=Lfc.fair_name p kk
      have y7:w7.cell? ⟨I,11,none⟩=some (.slice A l.length c):=L7.out.cell (by decide) (Oth.refl _ _)
      have y7d:w7.drew.cell? ⟨I,11,none⟩=some (.slice A l.length c):=y7
      have o7d:Oth P w7 w7.drew:=(Oth.refl _ _).drew
      rcases Lfc.PR.cases FR.1 with⟨cc,aa,hr⟩ | ⟨nw,k9,hr⟩
      ·rw[hr] at CWD
       have CE:=Lib.hid CWD
       have HF:Hid (M=.err cc aa):=Lib.hid (by rw[HM.out,hr];rfl)
       have O8:=Lib.hid (L7.out.f.oth.trans (Oth2.left o7d))
       clear CWD hr FR o7d
       as_aux_lemma =>
        refine wp_region_held_drew (S:=fun W=>W.cell? ⟨I,11,none⟩=some (.slice A l.length c)) (by kernel_rfl) y7d (fun hHeld=>?_)
        refine tk 0 ?_
        refine tk 1 ?_
        refine tk 2 ?_
        refine tk 3 ?_
        refine tk 4 ?_
        refine tk 5 ?_
        refine wpAnyH_ready (rs:=[6]) (by kernel_rfl) (by simp) (AllReadyH.cons rfl (fun K hK=>?_) AllReadyH.nil)
        go_simp
        go_at_call 138
        refine CE.out.mono ?_
        rintro e w9⟨rfl,o9⟩
        go_simp
        go_wp2_with fail
        rw[HF.out]
        exact⟨rfl,rfl,OB.out.trans (O8.out.trans (Oth2.left o9))⟩
      ·have hnw:=name_le OK.out hr
       rw[hr] at CWD
       have CE:=Lib.hid CWD
       have hb9:=FR.2.2 _ _ hr
       have HM9:Hid (M=(Lfc.namesF p f k9 (l++[nw])).then fun fs k5=>(p.punct k5 [46]).then fun _ k6=>.ok ({ Lfc.Itm.new a with kind:=5,blocks:=bs,fams:=fs },p.ops) k6):=Lib.hid (by rw[HM.out,hr];rfl)
       have HLM:Hid (l.length+1≤maxLen∧(l.length+1)*16≤140737488355328):=Lib.hid ⟨by unfold maxLen;omega,by omega⟩
       have OW8:=Lib.hid (L7.out.call HPB.out.1 L7.out.f.pw.drew o7d)
       have hs8:base2≤w7.drew.heap.size:=hbr
       clear CWD hr FR o7d
       go_region_law (first
        |(go_simp;go_at_call 138;refine CE.out.mono ?_;rintro e w9⟨⟨v9,rfl,rfl⟩,h9,o9⟩;have L9:=OW8.out.call HPB.out.1 h9 o9;have hown9:=L9.own;have y9:w9.cell? ⟨I,11,none⟩=some (.slice A l.length c):=L9.cell (by decide) (Oth.refl _ _);have y9a:∀o,(w9.alloc o).cell? ⟨I,11,none⟩=some (.slice A l.length c):=(fun o=>L9.cell (by decide) (Oth.of_below ((Below.refl _ _).alloc (Nat.le_refl _) o)));have hs9:base2≤w9.heap.size:=(by have:=o9.size;omega))
        |(refine step_append_own_at _ (by rfl) _ _ 36 (by rfl) base2 9 iz (S []) 1 16 Tryz.underlying36 hi hz0 hz1 hz2 rfl (by decide) _ _ _ (by rfl) (hown9.alloc _) ⟨w9.heap.size,0,none⟩ 1 1 [S nw] (by rfl) (by rfl) (fun jj u h=>cells_new w9 _ rfl [S nw] _ jj u h) (by intro u hu;simp at hu;subst hu;rfl) HLM.out.1 HLM.out.2 (alloc_le hs9) ?_;intro v' w10 hown10 hg10 hloc10;obtain⟨A10,c10,rfl⟩:=own_form hown10;obtain⟨⟨y10,f10⟩,L10,U10⟩:=L9.push (by decide) HPB.out.1 HPB.out.2.1 HPB.out.2.2 L9.f.pw (Oth.refl _ _) ((Below.refl _ _).alloc (Nat.le_refl _) _) hown10 hg10 (by simpa using hloc10)))
       all_goals
        have HNX:=Lib.hid L10
        have U10s:=U10.size
        have hs10:=Nat.le_trans hs9 U10s
        clear hown9 hown10 hg10 hloc10 L10 U10 L9
        have HAL2:Hid (∀s∈l++[nw],s.length≤1000000):=Lib.hid (fun s hs=>by
         rcases List.mem_append.1 hs with hs | hs
         ·exact HAL.out s hs
         ·simp at hs;subst hs;exact hnw)
        go_wp2_with fail
        go_roundw
        case rel=>exact⟨f,k9,l++[nw],A10,c10,hb9.2,by have:=hb9.1;simp;omega,HAL2,HM9,by simpa using HNX,hs10⟩
        case measure=>rw[cellLen_eq (HNX.out.cell (by decide) (Oth.refl _ _)),HLEN.out];omega
end Go.Proofs.YthajalgkjonaaaaGreatDoor
namespace Go.Proofs.YthajalgkjonaaaaGreatDoor
open Go.RowKit
structure Kp(E E':Nat→Prop)(w w':World):Prop where
 os:w'.os=w.os
 tape:w'.tape=w.tape
 output:w'.output=w.output
 size:w.heap.size≤w'.heap.size
 keep:∀b,b<w.heap.size→¬E b→w'.heap[b]?=w.heap[b]?
 out:∀b,b<w.heap.size→¬E b→¬E' b
theorem Kp.refl(E:Nat→Prop)(w:World):Kp E E w w:=⟨rfl,rfl,rfl,Nat.le_refl _,fun _ _ _=>rfl,fun _ _ h=>h⟩
theorem Kp.trans{E E' E'':Nat→Prop}{w w' w'':World}(h:Kp E E' w w')(h':Kp E' E'' w' w''):Kp E E'' w w'' :=
 ⟨h'.os.trans h.os,h'.tape.trans h.tape,h'.output.trans h.output,Nat.le_trans h.size h'.size,fun b hb he=>(h'.keep b (Nat.lt_of_lt_of_le hb h.size) (h.out b hb he)).trans (h.keep b hb he),fun b hb he=>h'.out b (Nat.lt_of_lt_of_le hb h.size) (h.out b hb he)⟩
theorem Kp.of_below{E:Nat→Prop}{w w':World}(h:Below w.heap.size w w'):Kp E E w w':=⟨h.os,h.tape,h.output,h.size,fun b hb _=>h.block b hb,fun _ _ h=>h⟩
def WE(Wr:Nat)(A B:Option Addr)(b:Nat):Prop:=b=Wr∨(∃a,A=some a∧a.block=b)∨∃a,B=some a∧a.block=b
structure WrI(Wr:Nat)(W:World)(A:Option Addr)(c:Nat)(B:Option Addr)(d:Nat)(ws qs:List (List UInt8)):Prop where
 blk:W.heap[Wr]?=some (.cells #[.slice A ws.length c,.slice B qs.length d] 81 (0,0))
 own:W.ownsRow (Wr+1) 9 1 (.slice A ws.length c) ws.length (ws.map S)
 qwn:W.ownsRow (Wr+1) 9 1 (.slice B qs.length d) qs.length (qs.map S)
 dis:∀a a',A=some a→B=some a'→a.block≠a'.block
def WrR(Wr:Nat)(A B:Option Addr)(w:World)(ws qs:List (List UInt8))(w':World):Prop:=∃A' c' B' d',WrI Wr w' A' c' B' d' ws qs∧Kp (WE Wr A B) (WE Wr A' B') w w'
def WrA(Wr:Nat)(A B:Option Addr)(d:Nat)(w:World)(ws qs:List (List UInt8))(w':World):Prop:=∃A' c',WrI Wr w' A' c' B d ws qs∧Kp (WE Wr A B) (WE Wr A' B) w w'
theorem WrA.toR{Wr:Nat}{A B:Option Addr}{d:Nat}{w w':World}{ws qs:List (List UInt8)}(h:WrA Wr A B d w ws qs w'):WrR Wr A B w ws qs w':=by
 obtain⟨A',c',h1,h2⟩:=h
 exact⟨A',c',B,d,h1,h2⟩
theorem WrI.lt{Wr:Nat}{W:World}{A B:Option Addr}{c d:Nat}{ws qs:List (List UInt8)}(h:WrI Wr W A c B d ws qs):Wr<W.heap.size:=lt_of_block h.blk
theorem WrI.own_type{Wr:Nat}{W:World}{A B:Option Addr}{c d:Nat}{ws qs:List (List UInt8)}(h:WrI Wr W A c B d ws qs):(∀a,A=some a→Wr<a.block∧∃cs,W.heap[a.block]?=some (.cells cs 9 (0,0)))∧∀a,B=some a→Wr<a.block∧∃cs,W.heap[a.block]?=some (.cells cs 9 (0,0)):=by
 have main:∀(X:Option Addr)(n x:Nat)(xs:List Value),W.ownsRow (Wr+1) 9 1 (.slice X n x) n xs→∀a,X=some a→Wr<a.block∧∃cs,W.heap[a.block]?=some (.cells cs 9 (0,0)):=by
  intro X n x xs hown a ha
  rcases hown.2 with⟨e,_⟩ | ⟨g,cap,cur,e,hbg,hg,_⟩
  ·rw[ha] at e;cases e
  ·rw[ha] at e
   injection e with e1 _ _
   injection e1 with e1
   subst e1
   exact⟨by simp only;omega,_,hg⟩
 exact⟨main _ _ _ _ h.own,main _ _ _ _ h.qwn⟩
theorem WrI.not_E{Wr k:Nat}{W:World}{A B:Option Addr}{c d:Nat}{ws qs:List (List UInt8)}(h:WrI Wr W A c B d ws qs){cs:Array Value}{t:TypeId}{f:Nat × Nat}(hk:W.heap[k]?=some (.cells cs t f))(h1:t≠81)(h2:t≠9):¬WE Wr A B k:=by
 obtain⟨hA,hB⟩:=h.own_type
 rintro (rfl | ⟨a,ha,rfl⟩ | ⟨a,ha,rfl⟩)
 ·rw[h.blk] at hk;cases hk;exact h1 rfl
 ·obtain⟨_,cs',e⟩:=hA a ha;rw[e] at hk;cases hk;exact h2 rfl
 ·obtain⟨_,cs',e⟩:=hB a ha;rw[e] at hk;cases hk;exact h2 rfl
theorem WrI.not_lt{Wr k:Nat}{W:World}{A B:Option Addr}{c d:Nat}{ws qs:List (List UInt8)}(h:WrI Wr W A c B d ws qs)(hk:k<Wr):¬WE Wr A B k:=by
 obtain⟨hA,hB⟩:=h.own_type
 rintro (rfl | ⟨a,ha,rfl⟩ | ⟨a,ha,rfl⟩)
 ·omega
 ·have:=(hA a ha).1;omega
 ·have:=(hB a ha).1;omega
theorem WrI.not_new{Wr k:Nat}{W:World}{A B:Option Addr}{c d:Nat}{ws qs:List (List UInt8)}(h:WrI Wr W A c B d ws qs)(hk:W.heap.size≤k):¬WE Wr A B k:=by
 obtain⟨hA,hB⟩:=h.own_type
 rintro (rfl | ⟨a,ha,rfl⟩ | ⟨a,ha,rfl⟩)
 ·have:=h.lt;omega
 ·obtain⟨_,cs',e⟩:=hA a ha;have:=lt_of_block e;omega
 ·obtain⟨_,cs',e⟩:=hB a ha;have:=lt_of_block e;omega
theorem WrI.below{Wr:Nat}{W W':World}{A B:Option Addr}{c d:Nat}{ws qs:List (List UInt8)}(h:WrI Wr W A c B d ws qs)(hb:Below W.heap.size W W'):WrI Wr W' A c B d ws qs:=by
 have hg:W.grownBy W' none:=⟨hb.os,hb.tape,hb.output,hb.size,fun k hk _=>hb.block k hk⟩
 exact⟨(hb.block _ h.lt).trans h.blk,h.own.kept hg (by cases(Value.slice A ws.length c).ownBlock <;> simp),h.qwn.kept hg (by cases(Value.slice B qs.length d).ownBlock <;> simp),h.dis⟩
theorem Kp.below_of{Wr:Nat}{w w':World}{A B:Option Addr}{c d:Nat}{ws qs:List (List UInt8)}{E':Nat→Prop}(k:Kp (WE Wr A B) E' w w')(h:WrI Wr w A c B d ws qs){lo:Nat}(hlo:lo≤Wr):Below lo w w' :=
 ⟨k.os,k.tape,k.output,k.size,fun b hb=>k.keep b (by have:=h.lt;omega) (h.not_lt (by omega))⟩
theorem str_info:∃i,Tryz.prog.info? 9=some i∧i.zero=some (S [])∧i.size=1∧i.bytes=16:=by
 obtain⟨i0,hi,hz0,hz1,hz2⟩:=info_parts (show(Tryz.prog.info? 9).map (fun i=>(i.zero,i.size,i.bytes))=some (some (S []),1,16) by kernel_rfl)
 exact⟨i0,hi,hz0,hz1,hz2⟩
theorem strs_row{w:World}{X:Option Addr}{xs:List (List UInt8)}(hx:StrsAt w X xs):xs.length≠0→∃a,X=some a∧∀j u,(xs.map S)[j]?=some u→w.cell? (a.add j)=some u:=fun hne=>by
 obtain⟨b,o,hA,hlt,hc⟩:=hx (by intro e;rw[e] at hne;exact hne rfl)
 refine⟨_,hA,fun j u hj=>?_⟩
 rw[List.getElem?_map,Option.map_eq_some_iff] at hj
 obtain⟨s,hs,rfl⟩:=hj
 obtain⟨hlt,rfl⟩:=List.getElem?_eq_some_iff.1 hs
 have:=hc j hlt
 rw[show(⟨b,o,none⟩:Addr).add j=⟨b,o+j,none⟩ by unfold Addr.add;split <;> simp_all]
 exact this
theorem strs_one(xs:List (List UInt8)):∀u∈xs.map S,u.oneCell'=true:=fun u hu=>by
 obtain⟨s,_,rfl⟩:=List.mem_map.1 hu
 rfl
theorem WrI.push{Wr:Nat}{w w2:World}{A B A2:Option Addr}{c d c2:Nat}{ws qs xs:List (List UInt8)}(h:WrI Wr w A c B d ws qs)(hown:w2.ownsRow (Wr+1) 9 1 (.slice A2 (ws.length+xs.length) c2) (ws.length+xs.length) (ws.map S++xs.map S))(hg:w.grownBy w2 (Value.slice A ws.length c).ownBlock)
  (hat:(Value.slice A2 (ws.length+xs.length) c2).ownBlock=(Value.slice A ws.length c).ownBlock∨(Value.slice A2 (ws.length+xs.length) c2).ownBlock=some w.heap.size) :
  w2.heap[Wr]?=some (.cells #[.slice A ws.length c,.slice B qs.length d] 81 (0,0))∧WrA Wr A B d w (ws++xs) qs (w2.setCell ⟨Wr,0,none⟩ (.slice A2 (ws.length+xs.length) c2)):=by
 have hs:=hg.size
 have hl:=h.lt
 obtain⟨tA,tB⟩:=h.own_type
 have hAne:(Value.slice A ws.length c).ownBlock≠some Wr:=fun e=>by have:=(h.own.lt _ e).1;omega
 have q1:w2.heap[Wr]?=some (.cells #[.slice A ws.length c,.slice B qs.length d] 81 (0,0)):=(hg.block Wr hl (fun e=>hAne e.symm)).trans h.blk
 have o4:Oth Wr w2 (w2.setCell ⟨Wr,0,none⟩ (.slice A2 (ws.length+xs.length) c2)):=Oth.set _ _
 have hA2:∀a,A2=some a→a.block≠Wr∧(some a.block=(Value.slice A ws.length c).ownBlock∨a.block=w.heap.size):=fun a ha=>by
  subst ha
  refine⟨fun e=>by have:=(hown.lt a.block rfl).1;omega,?_⟩
  rcases hat with e | e
  ·exact .inl e
  ·exact .inr (Option.some.inj e)
 have hAo:∀b,some b=(Value.slice A ws.length c).ownBlock→∃a,A=some a∧a.block=b:=fun b hb=>by
  rcases A with _ | a
  ·cases hb
  ·exact⟨a,rfl,(Option.some.inj hb).symm⟩
 refine⟨q1,A2,c2,⟨?_,?_,?_,?_⟩,?_⟩
 ·simp[World.setCell,Array.getElem?_modify,q1]
 ·have:=hown.kept o4 (Or.inr (fun e=>by have:=(hown.lt _ e).1;omega))
  simpa using this
 ·have q:=h.qwn.kept hg (by
   rcases B with _ | a'
   ·exact .inl rfl
   ·refine .inr fun e=>?_
    obtain⟨a,ha,hb⟩:=hAo a'.block e
    exact h.dis a a' ha rfl hb)
  exact q.kept o4 (Or.inr (fun e=>by have:=(q.lt _ e).1;omega))
 ·intro a a' ha ha'
  rcases(hA2 a ha).2 with e | e
  ·obtain⟨a0,h0,h1⟩:=hAo _ e
   rw[←h1]
   exact h.dis a0 a' h0 ha'
  ·obtain⟨_,cs,hc⟩:=tB a' ha'
   have:=lt_of_block hc
   omega
 ·refine⟨o4.os.trans hg.os,o4.tape.trans hg.tape,o4.output.trans hg.output,Nat.le_trans hs o4.size,fun b hb he=>?_,fun b hb he=>?_⟩
  ·rw[o4.block b (by omega) (fun e=>he (.inl (Option.some.inj e))),hg.block b hb (fun e=>by
    obtain⟨a,ha,hab⟩:=hAo b e
    exact he (.inr (.inl ⟨a,ha,hab⟩)))]
  ·rintro (rfl | ⟨a,ha,rfl⟩ | ⟨a,ha,rfl⟩)
   ·exact he (.inl rfl)
   ·rcases(hA2 a ha).2 with e | e
    ·obtain⟨a0,h0,h1⟩:=hAo _ e
     exact he (.inr (.inl ⟨a0,h0,h1⟩))
    ·omega
   ·exact he (.inr (.inr ⟨a,ha,rfl⟩))
theorem WrR.then{Wr:Nat}{A B A1 B1:Option Addr}{w w1 w2:World}{ws qs:List (List UInt8)}(k:Kp (WE Wr A B) (WE Wr A1 B1) w w1)(h:WrR Wr A1 B1 w1 ws qs w2):WrR Wr A B w ws qs w2:=by
 obtain⟨A',c',B',d',hi,hk⟩:=h
 exact⟨A',c',B',d',hi,k.trans hk⟩
theorem WrA.then{Wr:Nat}{A B A1:Option Addr}{d:Nat}{w w1 w2:World}{ws qs:List (List UInt8)}(k:Kp (WE Wr A B) (WE Wr A1 B) w w1)(h:WrA Wr A1 B d w1 ws qs w2):WrA Wr A B d w ws qs w2:=by
 obtain⟨A',c',hi,hk⟩:=h
 exact⟨A',c',hi,k.trans hk⟩
set_option maxRecDepth 100000 in
set_option maxHeartbeats 2000000 in
theorem wadd_any{Wr:Nat}{w:World}{A B:Option Addr}{c d:Nat}{ws qs:List (List UInt8)}(h:WrI Wr w A c B d ws qs)(X:Option Addr)(cx:Nat)(xs:List (List UInt8))(hx:StrsAt w X xs)(hl:ws.length+xs.length≤1000000000) :
  Calls Tryz.prog 50 #[.pointer (some ⟨Wr,0,none⟩),.slice X xs.length cx] w fun e w'=>e=.returned (.tuple #[])∧WrA Wr A B d w (ws++xs) qs w':=by
 obtain⟨i0,hi,hz0,hz1,hz2⟩:=str_info
 have HW:=Lib.hid h
 have HX:=Lib.hid hx
 have x0:=Lib.cell_of_heap h.blk 0
 simp at x0
 have hlt:=h.lt
 have HLM:Hid (ws.length+xs.length≤maxLen∧(ws.length+xs.length)*16≤140737488355328):=Lib.hid ⟨by unfold maxLen;omega,by omega⟩
 clear h hx
 go_enter Tryz.func50,Tryz.ntmps50
 go_wp2_with (at_builtin;refine wpList_append_own_any _ rfl _ _ 36 rfl (Wr+1) 9 i0 (S []) 1 16 Tryz.underlying36 hi hz0 hz1 hz2 rfl (by decide) _ _ _ rfl HW.out.own X xs.length cx (xs.map S) rfl (by simp) (strs_row HX.out) (strs_one xs) HLM.out.1 HLM.out.2 hlt ?_)
 intro v' w2 hown2 hg2 hat2
 obtain⟨A2,c2,rfl⟩:=own_form hown2
 obtain⟨q1,hr⟩:=HW.out.push hown2 hg2 hat2
 have y0:=Lib.cell_of_heap q1 0
 have f0:=Lib.frozen_of_heap q1 0
 simp at y0
 have HR:=Lib.hid hr
 clear hown2 hg2 hat2 hr q1
 go_wp2_with fail
 go_end0
 exact⟨rfl,HR.out⟩
theorem strs_new(w:World)(l:List (List UInt8)):StrsAt (w.alloc (.cells (l.map S).toArray 9)) (some ⟨w.heap.size,0,none⟩) l:=fun hne=>by
 have q:=heap_alloc_new w (.cells (l.map S).toArray 9)
 refine⟨_,_,rfl,lt_of_block q,fun i hi=>?_⟩
 rw[Nat.zero_add,Lib.cell_of_heap q i]
 simp[hi]
theorem wadd_new{Wr:Nat}{w:World}{A B:Option Addr}{c d:Nat}{ws qs:List (List UInt8)}(h:WrI Wr w A c B d ws qs)(xs:List (List UInt8))(hl:ws.length+xs.length≤1000000000) :
  Calls Tryz.prog 50 #[.pointer (some ⟨Wr,0,none⟩),.slice (some ⟨w.heap.size,0,none⟩) xs.length xs.length] (w.alloc (.cells (xs.map S).toArray 9)) fun e w'=>e=.returned (.tuple #[])∧WrA Wr A B d w (ws++xs) qs w':=by
 have b:Below w.heap.size w (w.alloc (.cells (xs.map S).toArray 9)):=(Below.refl _ _).alloc (Nat.le_refl _) _
 exact(wadd_any (h.below b) _ _ xs (strs_new w xs) hl).mono fun e w' hh=>⟨hh.1,WrA.then (Kp.of_below b) hh.2⟩
theorem Bld.keep{B b:Nat}{l:List UInt8}{w w':World}(h:Bld B b l w)(hk:∀(k:Nat)(c:Array Value)(t:TypeId)(f:Nat × Nat),w.heap[k]?=some (Obj.cells c t f)→t=5∨t=78→w'.heap[k]?=w.heap[k]?):Bld B b l w':=by
 have main:∀p,Lib.BuilderAtF 78 5 B b p (Lib.byteCells l) w→Lib.BuilderAtF 78 5 B b p (Lib.byteCells l) w':=by
  rintro p⟨hB,v,hb,hown,hne⟩
  refine⟨hB,v,(hk _ _ _ _ hb (.inr rfl)).trans hb,⟨hown.1,?_⟩,hne⟩
  rcases hown.2 with e | ⟨g,cap,cur,fz,e,hbg,hg,r⟩
  ·exact .inl e
  ·exact .inr ⟨g,cap,cur,fz,e,hbg,(hk _ _ _ _ hg (.inl rfl)).trans hg,r⟩
 rcases h with h | h
 ·exact .inl (main _ h)
 ·exact .inr (main _ h)
end Go.Proofs.YthajalgkjonaaaaGreatDoor
namespace Go.Proofs.YthajalgkjonaaaaGreatDoor
open Go.RowKit
theorem WrI.names{Wr:Nat}{w:World}{A B:Option Addr}{c d:Nat}{ws qs:List (List UInt8)}(h:WrI Wr w A c B d ws qs):NamesAt w B qs:=fun hne=>by
 rcases h.qwn.2 with⟨_,h0⟩ | ⟨g,cap,cur,hv,hbg,hg,_⟩
 ·omega
 ·have hv':=hv
  injection hv' with e1 _ e3
  subst e1 e3
  refine⟨g,0,rfl,lt_of_block hg,fun k hk=>?_⟩
  have:=h.qwn.cells (g:=g) rfl k (S qs[k]) (by simp[hk])
  rw[show(⟨g,0,none⟩:Addr).add k=⟨g,0+k,none⟩ by unfold Addr.add;split <;> simp_all] at this
  exact this
set_option maxRecDepth 100000 in
set_option maxHeartbeats 4000000 in
theorem wtree_any{Wr:Nat}{w:World}{A B:Option Addr}{c d:Nat}{ws qs:List (List UInt8)}(h:WrI Wr w A c B d ws qs)(t:Lfc.Raw)(v:Value)(hv:TreeV w t v)(ht:t.size≤1000000)(hl:ws.length≤900000000)(hq:qs.length≤1000000) :
  Calls Tryz.prog 51 #[.pointer (some ⟨Wr,0,none⟩),v] w fun e w'=>e=.returned (.tuple #[])∧WrA Wr A B d w (ws++[t.fmt qs]) qs w':=by
 have hlt:=h.lt
 obtain⟨⟨k,n,p,us⟩,rfl⟩:∃t',t=t':=⟨t,rfl⟩
 obtain⟨D,g,rfl,hg,hD⟩:=hv.open_
 obtain⟨w1,hw1⟩:∃w1,w.alloc (.cells #[.int .i64 k,S n,.int .i64 p,.slice D us.length g] 46)=w1:=⟨_,rfl⟩
 have b1:Below w.heap.size w w1:=by rw[←hw1];exact(Below.refl _ _).alloc (Nat.le_refl _) _
 have q1:w1.heap[w.heap.size]?=some (.cells #[.int .i64 k,S n,.int .i64 p,.slice D us.length g] 46 (0,0)):=by rw[←hw1];exact heap_alloc_new _ _
 have h1:=h.below b1
 have CF:=Lib.hid (fun W (hb:Below w1.heap.size w1 W)=>format_any (.node k n p us) _ qs B d W (by omega) (hv.below (b1.trans (hb.mono b1.size))) (by omega) (h1.below hb).names)
 have SC:Hid (∀W,Below w1.heap.size w1 W→(W.cell? ⟨w.heap.size,0,none⟩=some (.int .i64 k)∧W.cell? ⟨w.heap.size,1,none⟩=some (S n)∧W.cell? ⟨w.heap.size,2,none⟩=some (.int .i64 p)∧W.cell? ⟨w.heap.size,3,none⟩=some (.slice D us.length g))∧W.cell? ⟨Wr,1,none⟩=some (.slice B qs.length d)):=Lib.hid fun W hb=>by
  have e:=(hb.block _ (lt_of_block q1)).trans q1
  exact⟨⟨Lib.cell_of_heap e 0,Lib.cell_of_heap e 1,Lib.cell_of_heap e 2,Lib.cell_of_heap e 3⟩,Lib.cell_of_heap ((hb.block _ h1.lt).trans h1.blk) 1⟩
 have HW:=Lib.hid h1
 have B1:=Lib.hid b1
 have Q1:=Lib.hid q1
 generalize (Lfc.Raw.node k n p us).fmt qs=T at *
 clear h h1 hv b1 hD q1
 go_enter Tryz.func51,Tryz.ntmps51
 go_upto_region 1 with fail
 clear hw1
 refine wp_region_held_drew (S:=fun W=>(W.cell? ⟨w.heap.size,0,none⟩=some (.int .i64 k)∧W.cell? ⟨w.heap.size,1,none⟩=some (S n)∧W.cell? ⟨w.heap.size,2,none⟩=some (.int .i64 p)∧W.cell? ⟨w.heap.size,3,none⟩=some (.slice D us.length g))∧W.cell? ⟨Wr,1,none⟩=some (.slice B qs.length d)) (by kernel_rfl) (SC.out _ (Below.refl _ _).drew) (fun hHeld=>?_)
 refine tk 0 ?_
 refine tk 1 ?_
 refine tk 2 ?_
 refine tk 3 ?_
 refine tk 4 ?_
 refine tk 5 ?_
 refine wpAnyH_ready (rs:=[6]) (by kernel_rfl) (by simp) (AllReadyH.cons rfl (fun K hK=>?_) AllReadyH.nil)
 go_simp
 go_at_call 109
 refine(CF.out _ (Below.refl _ _).drew).mono ?_
 rintro e w2⟨rfl,b2⟩
 have b2':Below w1.heap.size w1 w2:=((Below.refl _ _).drew).trans b2
 refine hK.out _ _ ?_ (fun hHeld=>?_)
 ·exact SC.out _ b2'
 clear hK K
 refine nrm ?_
 have h2:=HW.out.below b2'
 have H2:=Lib.hid h2
 have HQ:=Lib.hid ((b2'.block _ (lt_of_block Q1.out)).trans Q1.out)
 have CA:=Lib.hid (wadd_new h2 [T] (by simp;omega))
 have K2:=Lib.hid (Kp.of_below (E:=WE Wr A B) (B1.out.trans (b2'.mono B1.out.size)))
 have SA:Hid (∀o,Below w1.heap.size w1 (w2.alloc o)):=Lib.hid fun o=>b2'.alloc b2'.size o
 refine wpAnyH_ready (rs:=[7]) (by kernel_rfl) (by simp) (AllReadyH.cons rfl (fun K hK=>?_) AllReadyH.nil)
 go_simp
 refine hK.out _ _ ?_ (fun hHeld=>?_)
 ·exact SC.out _ (SA.out _)
 clear hK K b2 b2' h2
 refine nrm ?_
 refine wpAnyH_ready (rs:=[8]) (by kernel_rfl) (by simp) (AllReadyH.cons rfl (fun K hK=>?_) AllReadyH.nil)
 go_simp
 go_at_call 50
 refine CA.out.mono ?_
 rintro e w3⟨rfl,hr⟩
 have HR:=Lib.hid hr
 obtain⟨A3,c3,h3,k3⟩:=hr
 have hq2:w2.heap[w.heap.size]?=some (.cells #[.int .i64 k,S n,.int .i64 p,.slice D us.length g] 46 (0,0)):=HQ.out
 have hq3:=(k3.keep _ (lt_of_block hq2) (H2.out.not_E hq2 (by decide) (by decide))).trans hq2
 refine hK.out _ _ ?_ (fun hHeld=>?_)
 ·exact⟨⟨Lib.cell_of_heap hq3 0,Lib.cell_of_heap hq3 1,Lib.cell_of_heap hq3 2,Lib.cell_of_heap hq3 3⟩,Lib.cell_of_heap h3.blk 1⟩
 clear hK K h3 k3 hq2 hq3
 refine wpAnyH_done (by kernel_rfl) ?_ _
 go_wp2_with fail
 go_end0
 exact⟨rfl,WrA.then K2.out HR.out⟩
end Go.Proofs.YthajalgkjonaaaaGreatDoor
namespace Go.Proofs
open Go.Shelf
open Go.Lib in
open Go.Lib in
open Go.Lib in
open Go.Lib in
open Go.RowKit Go.Sort Go.Lib in
open Go.RowKit Go.Sort Go.Lib in
open Go.RowKit Go.Sort Go.Lib in
open Go.RowKit Go.Sort Go.Lib in
open Go.RowKit Go.Sort Go.Lib in
open Go.RowKit Go.Sort Go.Lib in
def Tryz.lays171_ren:Go.Shelf.Ren:=⟨fun | 171=>52 | 243=>110 | 246=>164 | 283=>188 | 284=>189 | 285=>190 | 286=>191 | 129=>198 | 317=>197 | 318=>199 | 319=>200 | 320=>201 | 337=>202 | 338=>203 | n=>n,fun | 3=>3 | 9=>9 | 2=>2 | 4=>4 | 171=>213 | 0=>0 | 53=>106 | 37=>68 | 5=>5 | 173=>216 | 212=>223 | 51=>224 | 20=>20 | 213=>225 | 46=>226 | 232=>229 | 233=>230 | n=>n,fun | 17=>3 | 18=>4 | 19=>5 | n=>n⟩
theorem Tryz.lays171:Go.Proofs.Lays.n171 Tryz.prog Tryz.lays171_ren:={
 mixed:=by kernel_rfl
 f129:=Tryz.func198.trans (congrArg some (by kernel_rfl))
 f171:=Tryz.func52.trans (congrArg some (by kernel_rfl))
 f243:=Tryz.func110.trans (congrArg some (by kernel_rfl))
 f246:=Tryz.func164.trans (congrArg some (by kernel_rfl))
 f283:=Tryz.func188.trans (congrArg some (by kernel_rfl))
 f284:=Tryz.func189.trans (congrArg some (by kernel_rfl))
 f285:=Tryz.func190.trans (congrArg some (by kernel_rfl))
 f286:=Tryz.func191.trans (congrArg some (by kernel_rfl))
 f317:=Tryz.func197.trans (congrArg some (by kernel_rfl))
 f318:=Tryz.func199.trans (congrArg some (by kernel_rfl))
 f319:=Tryz.func200.trans (congrArg some (by kernel_rfl))
 f320:=Tryz.func201.trans (congrArg some (by kernel_rfl))
 f337:=Tryz.func202.trans (congrArg some (by kernel_rfl))
 f338:=Tryz.func203.trans (congrArg some (by kernel_rfl))
 t0:=Tryz.underlying0
 a0:=Tryz.isAgg0
 z0:=Tryz.sizeOf0
 v0:=Tryz.zeroValue0
 t2:=Tryz.underlying2
 a2:=Tryz.isAgg2
 z2:=Tryz.sizeOf2
 v2:=Tryz.zeroValue2
 t3:=Tryz.underlying3
 a3:=Tryz.isAgg3
 z3:=Tryz.sizeOf3
 v3:=Tryz.zeroValue3
 t4:=Tryz.underlying4
 a4:=Tryz.isAgg4
 z4:=Tryz.sizeOf4
 v4:=Tryz.zeroValue4
 t5:=Tryz.underlying5
 a5:=Tryz.isAgg5
 z5:=Tryz.sizeOf5
 v5:=Tryz.zeroValue5
 t9:=Tryz.underlying9
 a9:=Tryz.isAgg9
 z9:=Tryz.sizeOf9
 v9:=Tryz.zeroValue9
 t20:=Tryz.underlying20
 a20:=Tryz.isAgg20
 z20:=Tryz.sizeOf20
 v20:=Tryz.zeroValue20
 t37:=Tryz.underlying68
 a37:=Tryz.isAgg68
 z37:=Tryz.sizeOf68
 v37:=Tryz.zeroValue68
 t46:=Tryz.underlying226
 a46:=Tryz.isAgg226
 z46:=Tryz.sizeOf226
 v46:=Tryz.zeroValue226
 t51:=Tryz.underlying224
 a51:=Tryz.isAgg224
 z51:=Tryz.sizeOf224
 v51:=Tryz.zeroValue224
 t53:=Tryz.underlying106
 a53:=Tryz.isAgg106
 z53:=Tryz.sizeOf106
 v53:=Tryz.zeroValue106
 t171:=Tryz.underlying213
 a171:=Tryz.isAgg213
 z171:=Tryz.sizeOf213
 v171:=Tryz.zeroValue213
 t173:=Tryz.underlying216
 a173:=Tryz.isAgg216
 z173:=Tryz.sizeOf216
 v173:=Tryz.zeroValue216
 t212:=Tryz.underlying223
 a212:=Tryz.isAgg223
 z212:=Tryz.sizeOf223
 v212:=Tryz.zeroValue223
 t213:=Tryz.underlying225
 a213:=Tryz.isAgg225
 z213:=Tryz.sizeOf225
 t232:=Tryz.underlying229
 a232:=Tryz.isAgg229
 z232:=Tryz.sizeOf229
 v232:=Tryz.zeroValue229
 t233:=Tryz.underlying230
 a233:=Tryz.isAgg230
 z233:=Tryz.sizeOf230
 v233:=Tryz.zeroValue230
 g17:=by kernel_rfl
 g18:=by kernel_rfl
 g19:=by kernel_rfl }
open Go.RowKit Go.Sort Go.Lib in
theorem Tryz.strconv_Itoa_small(i:Nat)(hi:i<100)(w:World) :
  Calls Tryz.prog 52 #[.int .i64 i] w fun e w'=>e=.returned (.string ⟨(Lib.decDigits i).toArray⟩)∧w'=w:=Any.strconv_Itoa_small Tryz.lays171 i hi w
end Go.Proofs
