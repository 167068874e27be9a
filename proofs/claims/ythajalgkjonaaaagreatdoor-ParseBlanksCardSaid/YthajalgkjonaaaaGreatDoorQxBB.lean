/- Parts of the proof that no input makes the law false: PaWo4,PaTop,RawRFmt. -/
import Derived.Test.YthajalgkjonaaaaGreatDoorQxAC
import Derived.Test.YthajalgkjonaaaaGreatDoorQxAG
import Derived.Test.YthajalgkjonaaaaGreatDoorQxAH
import Derived.Test.YthajalgkjonaaaaGreatDoorQxAR
import Derived.Test.YthajalgkjonaaaaGreatDoorQxBA
set_option linter.unusedVariables false
set_option linter.unusedSimpArgs false
namespace Go.Proofs.YthajalgkjonaaaaGreatDoor
open Go.RowKit
set_option maxRecDepth 100000 in
set_option maxHeartbeats 8000000 in
theorem witem_op4{Wr:Nat}{w:World}{A B:Option Addr}{c d:Nat}{ws qs:List (List UInt8)}(h:WrI Wr w A c B d ws qs)(pos:Nat)(name:List UInt8)(type value:List Lfc.Raw)(on:List UInt8)(pr:Nat)(som params:List Lfc.Bnd)(blocks fams:List (List UInt8))(signs:List Int)(orders:List (List UInt8 × Lfc.Ord))(lk la:Int)(lp:List Lfc.Ord)(rk ra:Int)(rp:List Lfc.Ord)(rel count:Int)(s:IS)(hp:pr<100)(hl:ws.length≤1000000)(hq:qs.length≤1000000) :
  Calls Tryz.prog 27 #[.pointer (some ⟨Wr,0,none⟩),.agg #[.int .i64 3,.int .i64 (pos:Int),S name,.slice s.ty.1 type.length s.ty.2,.slice s.va.1 value.length s.va.2,S on,.int .i64 4,.int .i64 (pr:Int),.slice s.so.1 som.length s.so.2,.slice s.pa.1 params.length s.pa.2,.slice s.bl.1 blocks.length s.bl.2,.slice s.fa.1 fams.length s.fa.2,.slice s.si.1 signs.length s.si.2,.slice s.od.1 orders.length s.od.2,.int .i64 lk,.int .i64 la,.slice s.le.1 lp.length s.le.2,.int .i64 rk,.int .i64 ra,.slice s.ri.1 rp.length s.ri.2,.int .i64 rel,.int .i64 count]] w fun e w'=>e=.returned (.tuple #[])∧WrR Wr A B w (ws++[[37,105,110,102,105,120,32,108,101,102,116],Lfc.dec pr,on]) (qs++[on]) w':=by
 obtain⟨i0,hi,hz0,hz1,hz2⟩:=str_info
 have S0:=Wst.start h #[.int .i64 3,.int .i64 (pos:Int),S name,.slice s.ty.1 type.length s.ty.2,.slice s.va.1 value.length s.va.2,S on,.int .i64 4,.int .i64 (pr:Int),.slice s.so.1 som.length s.so.2,.slice s.pa.1 params.length s.pa.2,.slice s.bl.1 blocks.length s.bl.2,.slice s.fa.1 fams.length s.fa.2,.slice s.si.1 signs.length s.si.2,.slice s.od.1 orders.length s.od.2,.int .i64 lk,.int .i64 la,.slice s.le.1 lp.length s.le.2,.int .i64 rk,.int .i64 ra,.slice s.ri.1 rp.length s.ri.2,.int .i64 rel,.int .i64 count]
 obtain⟨wb,hwb⟩:∃wb,w.alloc (.cells #[.int .i64 3,.int .i64 (pos:Int),S name,.slice s.ty.1 type.length s.ty.2,.slice s.va.1 value.length s.va.2,S on,.int .i64 4,.int .i64 (pr:Int),.slice s.so.1 som.length s.so.2,.slice s.pa.1 params.length s.pa.2,.slice s.bl.1 blocks.length s.bl.2,.slice s.fa.1 fams.length s.fa.2,.slice s.si.1 signs.length s.si.2,.slice s.od.1 orders.length s.od.2,.int .i64 lk,.int .i64 la,.slice s.le.1 lp.length s.le.2,.int .i64 rk,.int .i64 ra,.slice s.ri.1 rp.length s.ri.2,.int .i64 rel,.int .i64 count] 42)=wb:=⟨_,rfl⟩
 rw[hwb] at S0
 have hlt:=h.lt
 have S0:=Lib.hid S0
 have hb0:=S0.out.box
 have y0:=Lib.cell_of_heap hb0 0
 simp at y0
 have SC:Hid (∀W,Below wb.heap.size wb W→(fun W=>W.cell? ⟨w.heap.size,5,none⟩=some (S on)∧W.cell? ⟨w.heap.size,6,none⟩=some (.int .i64 4)∧W.cell? ⟨w.heap.size,7,none⟩=some (.int .i64 (pr:Int))) W):=Lib.hid fun W hb=>by
  have e:=(hb.block _ (lt_of_block S0.out.box)).trans S0.out.box
  exact⟨Lib.cell_of_heap e 5,Lib.cell_of_heap e 6,Lib.cell_of_heap e 7⟩
 have CI:=Lib.hid (fun W=>Tryz.strconv_Itoa_small pr hp W)
 have HLM:Hid (qs.length+1≤maxLen∧(qs.length+1)*16≤140737488355328):=Lib.hid ⟨by unfold maxLen;omega,by omega⟩
 obtain⟨wc,hwc⟩:∃wc,wb.drew.alloc (.cells #[S [],S [37,112,114,101,102,105,120],S [37,112,111,115,116,102,105,120],S [37,105,110,102,105,120,32,110,111,110,101],S [37,105,110,102,105,120,32,108,101,102,116],S [37,105,110,102,105,120,32,114,105,103,104,116]] 9)=wc:=⟨_,rfl⟩
 have bc:Below wb.heap.size wb wc:=by rw[←hwc];exact((Below.refl _ _).drew).alloc (by simp) _
 have qc:wc.heap[wb.heap.size]?=some (.cells #[S [],S [37,112,114,101,102,105,120],S [37,112,111,115,116,102,105,120],S [37,105,110,102,105,120,32,110,111,110,101],S [37,105,110,102,105,120,32,108,101,102,116],S [37,105,110,102,105,120,32,114,105,103,104,116]] 9 (0,0)):=by rw[←hwc];exact heap_alloc_new wb.drew _
 have sc:wb.drew.heap.size=wb.heap.size:=rfl
 have AC:Hid (∀W,Below wc.heap.size wc W→(fun W=>W.cell? ⟨w.heap.size,5,none⟩=some (S on)∧W.cell? ⟨w.heap.size,6,none⟩=some (.int .i64 4)∧W.cell? ⟨w.heap.size,7,none⟩=some (.int .i64 (pr:Int))) W∧W.cell? ⟨wb.heap.size,4,none⟩=some (S [37,105,110,102,105,120,32,108,101,102,116])):=Lib.hid fun W hb=>by
  have e:=(hb.block _ (lt_of_block qc)).trans qc
  exact⟨SC.out W (bc.trans (hb.mono bc.size)),Lib.cell_of_heap e 4⟩
 have h1:=S0.out.wr.below bc
 have CA:=Lib.hid (wadd_new h1 [[37,105,110,102,105,120,32,108,101,102,116],Lfc.dec pr,on] (by simp;omega))
 have H1:=Lib.hid h1
 have NE:Hid (¬WE Wr A B wb.heap.size∧wb.heap.size<wc.heap.size):=Lib.hid ⟨S0.out.wr.not_new (Nat.le_refl _),lt_of_block qc⟩
 have SCC:Hid (Wst Wr A B d w w.heap.size #[.int .i64 3,.int .i64 (pos:Int),S name,.slice s.ty.1 type.length s.ty.2,.slice s.va.1 value.length s.va.2,S on,.int .i64 4,.int .i64 (pr:Int),.slice s.so.1 som.length s.so.2,.slice s.pa.1 params.length s.pa.2,.slice s.bl.1 blocks.length s.bl.2,.slice s.fa.1 fams.length s.fa.2,.slice s.si.1 signs.length s.si.2,.slice s.od.1 orders.length s.od.2,.int .i64 lk,.int .i64 la,.slice s.le.1 lp.length s.le.2,.int .i64 rk,.int .i64 ra,.slice s.ri.1 rp.length s.ri.2,.int .i64 rel,.int .i64 count] qs ws A c wc):=Lib.hid ⟨h1,S0.out.kp.trans (Kp.of_below bc),(bc.block _ (lt_of_block S0.out.box)).trans S0.out.box,S0.out.bel.trans (bc.mono (by have:=S0.out.wr.lt;omega))⟩
 have FIN:Hid (∀w3,WrA Wr A B d wc (ws++[[37,105,110,102,105,120,32,108,101,102,116],Lfc.dec pr,on]) qs w3→(((fun W=>W.cell? ⟨w.heap.size,5,none⟩=some (S on)∧W.cell? ⟨w.heap.size,6,none⟩=some (.int .i64 4)∧W.cell? ⟨w.heap.size,7,none⟩=some (.int .i64 (pr:Int))) w3∧w3.cell? ⟨wb.heap.size,4,none⟩=some (S [37,105,110,102,105,120,32,108,101,102,116]))∧∃A' c',Wst Wr A B d w w.heap.size #[.int .i64 3,.int .i64 (pos:Int),S name,.slice s.ty.1 type.length s.ty.2,.slice s.va.1 value.length s.va.2,S on,.int .i64 4,.int .i64 (pr:Int),.slice s.so.1 som.length s.so.2,.slice s.pa.1 params.length s.pa.2,.slice s.bl.1 blocks.length s.bl.2,.slice s.fa.1 fams.length s.fa.2,.slice s.si.1 signs.length s.si.2,.slice s.od.1 orders.length s.od.2,.int .i64 lk,.int .i64 la,.slice s.le.1 lp.length s.le.2,.int .i64 rk,.int .i64 ra,.slice s.ri.1 rp.length s.ri.2,.int .i64 rel,.int .i64 count] qs (ws++[[37,105,110,102,105,120,32,108,101,102,116],Lfc.dec pr,on]) A' c' w3)):=Lib.hid fun w3 ha=>by
  obtain⟨A',c',hs⟩:=SCC.out.step ha
  have e:=hs.box
  obtain⟨A3,c3,h3,k3⟩:=ha
  have e2:=(k3.keep _ NE.out.2 NE.out.1).trans qc
  exact⟨⟨⟨Lib.cell_of_heap e 5,Lib.cell_of_heap e 6,Lib.cell_of_heap e 7⟩,Lib.cell_of_heap e2 4⟩,A',c',hs⟩
 clear h hb0 bc h1
 go_enter Tryz.func27,Tryz.ntmps27
 go_upto_region 13 with fail
 clear hwb
 have main:∀(G:World→Prop),(∀w3 A3 c3,Wst Wr A B d w w.heap.size #[.int .i64 3,.int .i64 (pos:Int),S name,.slice s.ty.1 type.length s.ty.2,.slice s.va.1 value.length s.va.2,S on,.int .i64 4,.int .i64 (pr:Int),.slice s.so.1 som.length s.so.2,.slice s.pa.1 params.length s.pa.2,.slice s.bl.1 blocks.length s.bl.2,.slice s.fa.1 fams.length s.fa.2,.slice s.si.1 signs.length s.si.2,.slice s.od.1 orders.length s.od.2,.int .i64 lk,.int .i64 la,.slice s.le.1 lp.length s.le.2,.int .i64 rk,.int .i64 ra,.slice s.ri.1 rp.length s.ri.2,.int .i64 rel,.int .i64 count] qs (ws++[[37,105,110,102,105,120,32,108,101,102,116],Lfc.dec pr,on]) A3 c3 w3→G w3)→True:=fun _ _=>trivial
 clear main
 refine wp_region_held_drew (S:=(fun W=>W.cell? ⟨w.heap.size,5,none⟩=some (S on)∧W.cell? ⟨w.heap.size,6,none⟩=some (.int .i64 4)∧W.cell? ⟨w.heap.size,7,none⟩=some (.int .i64 (pr:Int)))) (by kernel_rfl) (SC.out _ (Below.refl _ _).drew) (fun hHeld=>?_)
 refine tk 0 ?_
 refine tk 2 ?_
 refine tk 3 ?_
 refine tk 4 ?_
 refine tk 7 ?_
 refine tk 8 ?_
 refine tk 9 ?_
 refine tk 11 ?_
 refine tk 12 ?_
 refine tk 13 ?_
 refine wpAnyH_ready (rs:=[1,10]) (by kernel_rfl) (by simp) (AllReadyH.cons rfl (fun K hK=>?_) (AllReadyH.cons rfl (fun K hK=>?_) AllReadyH.nil))
 ·as_aux_lemma =>
  rw[if_pos (by rfl)]
  refine wp_buildSlice 36 9 6 _ (by rfl) #[S [],S [37,112,114,101,102,105,120],S [37,112,111,115,116,102,105,120],S [37,105,110,102,105,120,32,110,111,110,101],S [37,105,110,102,105,120,32,108,101,102,116],S [37,105,110,102,105,120,32,114,105,103,104,116]] i0 (S []) Tryz.underlying36 hi hz0 (by rw[hz1];decide) (by rw[hz1];decide) (by rw[hz1];exact fill6 _ _ _ _ _ _ _) ?_
  rw[hwc]
  refine hK.out _ _ ?_ (fun hHeld=>?_)
  ·exact(AC.out _ (Below.refl _ _)).1
  clear hK K hHeld
  refine nrm ?_
  refine wpAnyH_mono (S':=fun W=>(fun W=>W.cell? ⟨w.heap.size,5,none⟩=some (S on)∧W.cell? ⟨w.heap.size,6,none⟩=some (.int .i64 4)∧W.cell? ⟨w.heap.size,7,none⟩=some (.int .i64 (pr:Int))) W∧W.cell? ⟨wb.heap.size,4,none⟩=some (S [37,105,110,102,105,120,32,108,101,102,116])) (fun W h=>h.1) _ _ _ _ ?_
  have hHeld:=AC.out _ (Below.refl _ _)
  refine tk 5 ?_
  refine tk 6 ?_
  refine wpAnyH_ready (rs:=[10]) (by kernel_rfl) (by simp) (AllReadyH.cons rfl (fun K hK=>?_) AllReadyH.nil)
  go_simp
  go_at_call 52
  refine(CI.out _).mono ?_
  rintro e wi⟨rfl,rfl⟩
  refine hK.out _ _ ?_ (fun hHeld=>?_)
  ·exact AC.out _ (Below.refl _ _)
  clear hK K hHeld
  refine nrm ?_
  have hHeld:=AC.out _ (Below.refl _ _)
  refine wpAnyH_ready (rs:=[14]) (by kernel_rfl) (by simp) (AllReadyH.cons rfl (fun K hK=>?_) AllReadyH.nil)
  go_simp
  refine hK.out _ _ ?_ (fun hHeld=>?_)
  ·exact AC.out _ ((Below.refl _ _).alloc (Nat.le_refl _) _)
  clear hK K
  refine nrm ?_
  refine wpAnyH_ready (rs:=[15]) (by kernel_rfl) (by simp) (AllReadyH.cons rfl (fun K hK=>?_) AllReadyH.nil)
  go_simp
  go_at_call 50
  refine CA.out.mono ?_
  rintro e w3⟨rfl,hr⟩
  obtain⟨hS,A3,c3,T3⟩:=FIN.out w3 hr
  refine hK.out _ _ hS (fun hHeld=>?_)
  clear hK K hr hS
  refine wpAnyH_done (by kernel_rfl) ?_ _
  clear hHeld
  have T3:=Lib.hid T3
  go_upto_region 14 with fail
  have hb3:=T3.out.box
  have SC3:Hid (∀W,Below w3.heap.size w3 W→W.cell? ⟨w.heap.size,5,none⟩=some (S on)):=Lib.hid fun W hb=>Lib.cell_of_heap ((hb.block _ (lt_of_block T3.out.box)).trans T3.out.box) 5
  have z1:=Lib.cell_of_heap T3.out.wr.blk 1
  simp at z1
  obtain⟨w4,hw4⟩:∃w4,w3.drew.alloc (.cells #[S on] 9)=w4:=⟨_,rfl⟩
  have b4:Below w3.heap.size w3 w4:=by rw[←hw4];exact((Below.refl _ _).drew).alloc (by simp) _
  have q4:w4.heap[w3.heap.size]?=some (.cells #[S on] 9 (0,0)):=by rw[←hw4];exact heap_alloc_new w3.drew _
  have z4:=(b4.cell (p:=⟨Wr,1,none⟩) (T3.out.wr.lt)).trans z1
  have H4:=Lib.hid (T3.out.wr.below b4)
  have K4:=Lib.hid (T3.out.kp.trans (Kp.of_below b4))
  have hl4:=H4.out.lt
  have B4:=Lib.hid b4
  have C4:Hid (∀j u,[S on][j]?=some u→w4.cell? ((⟨w3.heap.size,0,none⟩:Addr).add j)=some u):=Lib.hid fun j u hj=>by
   match j,hj with
   |0,hj =>
    simp at hj
    subst hj
    rw[show(⟨w3.heap.size,0,none⟩:Addr).add 0=⟨w3.heap.size,0,none⟩ by unfold Addr.add;split <;> simp_all]
    exact Lib.cell_of_heap q4 0
  clear hb3 b4 q4
  refine wp_region_held_drew (S:=fun W=>W.cell? ⟨w.heap.size,5,none⟩=some (S on)) (by kernel_rfl) (SC3.out _ (Below.refl _ _).drew) (fun hHeld=>?_)
  refine tk 0 ?_
  refine tk 1 ?_
  refine tk 2 ?_
  refine tk 3 ?_
  refine tk 5 ?_
  refine tk 6 ?_
  refine tk 7 ?_
  refine wpAnyH_ready (rs:=[4,8]) (by kernel_rfl) (by simp) (AllReadyH.cons rfl (fun K hK=>?_) (AllReadyH.cons rfl (fun K hK=>?_) AllReadyH.nil))
  ·as_aux_lemma =>
   go_simp
   refine hK.out _ _ ?_ (fun hHeld=>?_)
   ·exact hHeld
   clear hK K
   refine nrm ?_
   refine wpAnyH_ready (rs:=[8]) (by kernel_rfl) (by simp) (AllReadyH.cons rfl (fun K hK=>?_) AllReadyH.nil)
   go_simp
   try rw[hw4]
   refine hK.out _ _ ?_ (fun hHeld=>?_)
   ·exact SC3.out _ B4.out
   clear hK K
   refine nrm ?_
   refine wpAnyH_ready (rs:=[9]) (by kernel_rfl) (by simp) (AllReadyH.cons rfl (fun K hK=>?_) AllReadyH.nil)
   refine step_append_own_any _ (by rfl) _ _ 36 (by rfl) (Wr+1) 9 i0 (S []) 1 16 Tryz.underlying36 hi hz0 hz1 hz2 rfl (by decide) _ _ _ (by rfl) H4.out.qwn (some ⟨w3.heap.size,0,none⟩) 1 1 [S on] (by rfl) (by rfl) (fun _=>⟨_,rfl,C4.out⟩) (by intro u hu;simp at hu;subst hu;rfl) HLM.out.1 HLM.out.2 hl4 ?_
   intro v5 w5 hown5 hg5 hat5
   obtain⟨B5,d5,rfl⟩:=own_form hown5
   obtain⟨q5,r5⟩:=H4.out.pushq hown5 hg5 hat5
   have x5:=Lib.cell_of_heap q5 1
   have f5:=Lib.frozen_of_heap q5 1
   simp at x5
   have k5:w5.heap[w.heap.size]?=w4.heap[w.heap.size]?:=hg5.block _ (Nat.lt_of_lt_of_le (lt_of_block T3.out.box) B4.out.size) (fun e=>by
    have hbx:=(B4.out.block _ (lt_of_block T3.out.box)).trans T3.out.box
    refine H4.out.not_E hbx (by decide) (by decide) ?_
    rcases B with _ | a
    ·cases e
    ·exact .inr (.inr ⟨a,rfl,(Option.some.inj e).symm⟩))
   have hbx:=k5.trans ((B4.out.block _ (lt_of_block T3.out.box)).trans T3.out.box)
   have R5:=Lib.hid (WrR.then K4.out r5)
   have hne5:w.heap.size≠Wr:=by have:=S0.out.box;intro e;rw[←e] at hlt;omega
   refine hK.out _ _ ?_ (fun hHeld=>?_)
   ·exact Lib.cell_of_heap hbx 5
   clear hK K
   refine nrm ?_
   have o6:Oth Wr w5 (w5.setCell ⟨Wr,1,none⟩ (.slice B5 (qs.length+1) d5)):=Oth.set _ _
   have hbx6:=Lib.hid (o6.heap hbx hne5)
   clear hown5 hg5 hat5 q5 r5 k5 hbx o6
   refine tk 10 ?_
   refine tk 11 ?_
   refine wpAnyH_ready (rs:=[12]) (by kernel_rfl) (by simp) (AllReadyH.cons rfl (fun K hK=>?_) AllReadyH.nil)
   go_simp
   refine hK.out _ _ ?_ (fun hHeld=>?_)
   ·exact Lib.cell_of_heap hbx6.out 5
   clear hK K
   refine wpAnyH_done (by kernel_rfl) ?_ _
   go_wp2_with fail
   go_end0
   exact⟨rfl,R5.out⟩
  ·as_aux_lemma =>
   go_simp
   try rw[hw4]
   refine hK.out _ _ ?_ (fun hHeld=>?_)
   ·exact SC3.out _ B4.out
   clear hK K
   refine nrm ?_
   refine wpAnyH_ready (rs:=[4]) (by kernel_rfl) (by simp) (AllReadyH.cons rfl (fun K hK=>?_) AllReadyH.nil)
   go_simp
   refine hK.out _ _ ?_ (fun hHeld=>?_)
   ·exact hHeld
   clear hK K
   refine nrm ?_
   refine wpAnyH_ready (rs:=[9]) (by kernel_rfl) (by simp) (AllReadyH.cons rfl (fun K hK=>?_) AllReadyH.nil)
   refine step_append_own_any _ (by rfl) _ _ 36 (by rfl) (Wr+1) 9 i0 (S []) 1 16 Tryz.underlying36 hi hz0 hz1 hz2 rfl (by decide) _ _ _ (by rfl) H4.out.qwn (some ⟨w3.heap.size,0,none⟩) 1 1 [S on] (by rfl) (by rfl) (fun _=>⟨_,rfl,C4.out⟩) (by intro u hu;simp at hu;subst hu;rfl) HLM.out.1 HLM.out.2 hl4 ?_
   intro v5 w5 hown5 hg5 hat5
   obtain⟨B5,d5,rfl⟩:=own_form hown5
   obtain⟨q5,r5⟩:=H4.out.pushq hown5 hg5 hat5
   have x5:=Lib.cell_of_heap q5 1
   have f5:=Lib.frozen_of_heap q5 1
   simp at x5
   have k5:w5.heap[w.heap.size]?=w4.heap[w.heap.size]?:=hg5.block _ (Nat.lt_of_lt_of_le (lt_of_block T3.out.box) B4.out.size) (fun e=>by
    have hbx:=(B4.out.block _ (lt_of_block T3.out.box)).trans T3.out.box
    refine H4.out.not_E hbx (by decide) (by decide) ?_
    rcases B with _ | a
    ·cases e
    ·exact .inr (.inr ⟨a,rfl,(Option.some.inj e).symm⟩))
   have hbx:=k5.trans ((B4.out.block _ (lt_of_block T3.out.box)).trans T3.out.box)
   have R5:=Lib.hid (WrR.then K4.out r5)
   have hne5:w.heap.size≠Wr:=by have:=S0.out.box;intro e;rw[←e] at hlt;omega
   refine hK.out _ _ ?_ (fun hHeld=>?_)
   ·exact Lib.cell_of_heap hbx 5
   clear hK K
   refine nrm ?_
   have o6:Oth Wr w5 (w5.setCell ⟨Wr,1,none⟩ (.slice B5 (qs.length+1) d5)):=Oth.set _ _
   have hbx6:=Lib.hid (o6.heap hbx hne5)
   clear hown5 hg5 hat5 q5 r5 k5 hbx o6
   refine tk 10 ?_
   refine tk 11 ?_
   refine wpAnyH_ready (rs:=[12]) (by kernel_rfl) (by simp) (AllReadyH.cons rfl (fun K hK=>?_) AllReadyH.nil)
   go_simp
   refine hK.out _ _ ?_ (fun hHeld=>?_)
   ·exact Lib.cell_of_heap hbx6.out 5
   clear hK K
   refine wpAnyH_done (by kernel_rfl) ?_ _
   go_wp2_with fail
   go_end0
   exact⟨rfl,R5.out⟩
 ·as_aux_lemma =>
  go_simp
  go_at_call 52
  refine(CI.out _).mono ?_
  rintro e wi⟨rfl,rfl⟩
  refine hK.out _ _ ?_ (fun hHeld=>?_)
  ·exact SC.out _ (Below.refl _ _).drew
  clear hK K hHeld
  refine nrm ?_
  have hHeld:=SC.out _ (Below.refl _ _).drew
  refine wpAnyH_ready (rs:=[1]) (by kernel_rfl) (by simp) (AllReadyH.cons rfl (fun K hK=>?_) AllReadyH.nil)
  rw[if_pos (by rfl)]
  refine wp_buildSlice 36 9 6 _ (by rfl) #[S [],S [37,112,114,101,102,105,120],S [37,112,111,115,116,102,105,120],S [37,105,110,102,105,120,32,110,111,110,101],S [37,105,110,102,105,120,32,108,101,102,116],S [37,105,110,102,105,120,32,114,105,103,104,116]] i0 (S []) Tryz.underlying36 hi hz0 (by rw[hz1];decide) (by rw[hz1];decide) (by rw[hz1];exact fill6 _ _ _ _ _ _ _) ?_
  rw[hwc]
  refine hK.out _ _ ?_ (fun hHeld=>?_)
  ·exact(AC.out _ (Below.refl _ _)).1
  clear hK K hHeld
  refine nrm ?_
  refine wpAnyH_mono (S':=fun W=>(fun W=>W.cell? ⟨w.heap.size,5,none⟩=some (S on)∧W.cell? ⟨w.heap.size,6,none⟩=some (.int .i64 4)∧W.cell? ⟨w.heap.size,7,none⟩=some (.int .i64 (pr:Int))) W∧W.cell? ⟨wb.heap.size,4,none⟩=some (S [37,105,110,102,105,120,32,108,101,102,116])) (fun W h=>h.1) _ _ _ _ ?_
  have hHeld:=AC.out _ (Below.refl _ _)
  refine tk 5 ?_
  refine tk 6 ?_
  refine wpAnyH_ready (rs:=[14]) (by kernel_rfl) (by simp) (AllReadyH.cons rfl (fun K hK=>?_) AllReadyH.nil)
  go_simp
  refine hK.out _ _ ?_ (fun hHeld=>?_)
  ·exact AC.out _ ((Below.refl _ _).alloc (Nat.le_refl _) _)
  clear hK K
  refine nrm ?_
  refine wpAnyH_ready (rs:=[15]) (by kernel_rfl) (by simp) (AllReadyH.cons rfl (fun K hK=>?_) AllReadyH.nil)
  go_simp
  go_at_call 50
  refine CA.out.mono ?_
  rintro e w3⟨rfl,hr⟩
  obtain⟨hS,A3,c3,T3⟩:=FIN.out w3 hr
  refine hK.out _ _ hS (fun hHeld=>?_)
  clear hK K hr hS
  refine wpAnyH_done (by kernel_rfl) ?_ _
  clear hHeld
  have T3:=Lib.hid T3
  go_upto_region 14 with fail
  have hb3:=T3.out.box
  have SC3:Hid (∀W,Below w3.heap.size w3 W→W.cell? ⟨w.heap.size,5,none⟩=some (S on)):=Lib.hid fun W hb=>Lib.cell_of_heap ((hb.block _ (lt_of_block T3.out.box)).trans T3.out.box) 5
  have z1:=Lib.cell_of_heap T3.out.wr.blk 1
  simp at z1
  obtain⟨w4,hw4⟩:∃w4,w3.drew.alloc (.cells #[S on] 9)=w4:=⟨_,rfl⟩
  have b4:Below w3.heap.size w3 w4:=by rw[←hw4];exact((Below.refl _ _).drew).alloc (by simp) _
  have q4:w4.heap[w3.heap.size]?=some (.cells #[S on] 9 (0,0)):=by rw[←hw4];exact heap_alloc_new w3.drew _
  have z4:=(b4.cell (p:=⟨Wr,1,none⟩) (T3.out.wr.lt)).trans z1
  have H4:=Lib.hid (T3.out.wr.below b4)
  have K4:=Lib.hid (T3.out.kp.trans (Kp.of_below b4))
  have hl4:=H4.out.lt
  have B4:=Lib.hid b4
  have C4:Hid (∀j u,[S on][j]?=some u→w4.cell? ((⟨w3.heap.size,0,none⟩:Addr).add j)=some u):=Lib.hid fun j u hj=>by
   match j,hj with
   |0,hj =>
    simp at hj
    subst hj
    rw[show(⟨w3.heap.size,0,none⟩:Addr).add 0=⟨w3.heap.size,0,none⟩ by unfold Addr.add;split <;> simp_all]
    exact Lib.cell_of_heap q4 0
  clear hb3 b4 q4
  refine wp_region_held_drew (S:=fun W=>W.cell? ⟨w.heap.size,5,none⟩=some (S on)) (by kernel_rfl) (SC3.out _ (Below.refl _ _).drew) (fun hHeld=>?_)
  refine tk 0 ?_
  refine tk 1 ?_
  refine tk 2 ?_
  refine tk 3 ?_
  refine tk 5 ?_
  refine tk 6 ?_
  refine tk 7 ?_
  refine wpAnyH_ready (rs:=[4,8]) (by kernel_rfl) (by simp) (AllReadyH.cons rfl (fun K hK=>?_) (AllReadyH.cons rfl (fun K hK=>?_) AllReadyH.nil))
  ·as_aux_lemma =>
   go_simp
   refine hK.out _ _ ?_ (fun hHeld=>?_)
   ·exact hHeld
   clear hK K
   refine nrm ?_
   refine wpAnyH_ready (rs:=[8]) (by kernel_rfl) (by simp) (AllReadyH.cons rfl (fun K hK=>?_) AllReadyH.nil)
   go_simp
   try rw[hw4]
   refine hK.out _ _ ?_ (fun hHeld=>?_)
   ·exact SC3.out _ B4.out
   clear hK K
   refine nrm ?_
   refine wpAnyH_ready (rs:=[9]) (by kernel_rfl) (by simp) (AllReadyH.cons rfl (fun K hK=>?_) AllReadyH.nil)
   refine step_append_own_any _ (by rfl) _ _ 36 (by rfl) (Wr+1) 9 i0 (S []) 1 16 Tryz.underlying36 hi hz0 hz1 hz2 rfl (by decide) _ _ _ (by rfl) H4.out.qwn (some ⟨w3.heap.size,0,none⟩) 1 1 [S on] (by rfl) (by rfl) (fun _=>⟨_,rfl,C4.out⟩) (by intro u hu;simp at hu;subst hu;rfl) HLM.out.1 HLM.out.2 hl4 ?_
   intro v5 w5 hown5 hg5 hat5
   obtain⟨B5,d5,rfl⟩:=own_form hown5
   obtain⟨q5,r5⟩:=H4.out.pushq hown5 hg5 hat5
   have x5:=Lib.cell_of_heap q5 1
   have f5:=Lib.frozen_of_heap q5 1
   simp at x5
   have k5:w5.heap[w.heap.size]?=w4.heap[w.heap.size]?:=hg5.block _ (Nat.lt_of_lt_of_le (lt_of_block T3.out.box) B4.out.size) (fun e=>by
    have hbx:=(B4.out.block _ (lt_of_block T3.out.box)).trans T3.out.box
    refine H4.out.not_E hbx (by decide) (by decide) ?_
    rcases B with _ | a
    ·cases e
    ·exact .inr (.inr ⟨a,rfl,(Option.some.inj e).symm⟩))
   have hbx:=k5.trans ((B4.out.block _ (lt_of_block T3.out.box)).trans T3.out.box)
   have R5:=Lib.hid (WrR.then K4.out r5)
   have hne5:w.heap.size≠Wr:=by have:=S0.out.box;intro e;rw[←e] at hlt;omega
   refine hK.out _ _ ?_ (fun hHeld=>?_)
   ·exact Lib.cell_of_heap hbx 5
   clear hK K
   refine nrm ?_
   have o6:Oth Wr w5 (w5.setCell ⟨Wr,1,none⟩ (.slice B5 (qs.length+1) d5)):=Oth.set _ _
   have hbx6:=Lib.hid (o6.heap hbx hne5)
   clear hown5 hg5 hat5 q5 r5 k5 hbx o6
   refine tk 10 ?_
   refine tk 11 ?_
   refine wpAnyH_ready (rs:=[12]) (by kernel_rfl) (by simp) (AllReadyH.cons rfl (fun K hK=>?_) AllReadyH.nil)
   go_simp
   refine hK.out _ _ ?_ (fun hHeld=>?_)
   ·exact Lib.cell_of_heap hbx6.out 5
   clear hK K
   refine wpAnyH_done (by kernel_rfl) ?_ _
   go_wp2_with fail
   go_end0
   exact⟨rfl,R5.out⟩
  ·as_aux_lemma =>
   go_simp
   try rw[hw4]
   refine hK.out _ _ ?_ (fun hHeld=>?_)
   ·exact SC3.out _ B4.out
   clear hK K
   refine nrm ?_
   refine wpAnyH_ready (rs:=[4]) (by kernel_rfl) (by simp) (AllReadyH.cons rfl (fun K hK=>?_) AllReadyH.nil)
   go_simp
   refine hK.out _ _ ?_ (fun hHeld=>?_)
   ·exact hHeld
   clear hK K
   refine nrm ?_
   refine wpAnyH_ready (rs:=[9]) (by kernel_rfl) (by simp) (AllReadyH.cons rfl (fun K hK=>?_) AllReadyH.nil)
   refine step_append_own_any _ (by rfl) _ _ 36 (by rfl) (Wr+1) 9 i0 (S []) 1 16 Tryz.underlying36 hi hz0 hz1 hz2 rfl (by decide) _ _ _ (by rfl) H4.out.qwn (some ⟨w3.heap.size,0,none⟩) 1 1 [S on] (by rfl) (by rfl) (fun _=>⟨_,rfl,C4.out⟩) (by intro u hu;simp at hu;subst hu;rfl) HLM.out.1 HLM.out.2 hl4 ?_
   intro v5 w5 hown5 hg5 hat5
   obtain⟨B5,d5,rfl⟩:=own_form hown5
   obtain⟨q5,r5⟩:=H4.out.pushq hown5 hg5 hat5
   have x5:=Lib.cell_of_heap q5 1
   have f5:=Lib.frozen_of_heap q5 1
   simp at x5
   have k5:w5.heap[w.heap.size]?=w4.heap[w.heap.size]?:=hg5.block _ (Nat.lt_of_lt_of_le (lt_of_block T3.out.box) B4.out.size) (fun e=>by
    have hbx:=(B4.out.block _ (lt_of_block T3.out.box)).trans T3.out.box
    refine H4.out.not_E hbx (by decide) (by decide) ?_
    rcases B with _ | a
    ·cases e
    ·exact .inr (.inr ⟨a,rfl,(Option.some.inj e).symm⟩))
   have hbx:=k5.trans ((B4.out.block _ (lt_of_block T3.out.box)).trans T3.out.box)
   have R5:=Lib.hid (WrR.then K4.out r5)
   have hne5:w.heap.size≠Wr:=by have:=S0.out.box;intro e;rw[←e] at hlt;omega
   refine hK.out _ _ ?_ (fun hHeld=>?_)
   ·exact Lib.cell_of_heap hbx 5
   clear hK K
   refine nrm ?_
   have o6:Oth Wr w5 (w5.setCell ⟨Wr,1,none⟩ (.slice B5 (qs.length+1) d5)):=Oth.set _ _
   have hbx6:=Lib.hid (o6.heap hbx hne5)
   clear hown5 hg5 hat5 q5 r5 k5 hbx o6
   refine tk 10 ?_
   refine tk 11 ?_
   refine wpAnyH_ready (rs:=[12]) (by kernel_rfl) (by simp) (AllReadyH.cons rfl (fun K hK=>?_) AllReadyH.nil)
   go_simp
   refine hK.out _ _ ?_ (fun hHeld=>?_)
   ·exact Lib.cell_of_heap hbx6.out 5
   clear hK K
   refine wpAnyH_done (by kernel_rfl) ?_ _
   go_wp2_with fail
   go_end0
   exact⟨rfl,R5.out⟩
end Go.Proofs.YthajalgkjonaaaaGreatDoor
namespace Lfc
def PE.exprTop(p:PE):PR Raw:=(p.expr 0).then fun t k=>if k<p.toks.length then p.unexp k else .ok t k
def exprRd(n:Nat)(l:List Op)(toks:List Tok):PR (List Op):=(PE.exprTop ⟨toks,n,l⟩).then fun _ k=>.ok l k
def exprAll(l:List Op)(s:List UInt8):PR Raw:=if (lex s).2.1≠0 then .err (lex s).2.1 (lex s).2.2 else PE.exprTop ⟨(lex s).1,s.length,l⟩
theorem exprTop_ne(p:PE):p.exprTop≠.out:=PR.then_ne_out (expr_ne p 0) fun t k _=>by
 split
 ·exact p.unexp_ne _
 ·simp
theorem nz_exprTop(p:PE):NzE p.exprTop:=NzE.then (nz_expr p 0) fun t k=>by
 split
 ·exact nz_unexp _ _
 ·exact NzE.ok _ _
theorem exprRd_ne(n:Nat)(l:List Op)(toks:List Tok):exprRd n l toks≠.out:=PR.then_ne_out (exprTop_ne _) (by simp)
theorem runP_all(l:List Op)(s:List UInt8):runP s (exprRd s.length l)=(exprAll l s).then fun _ k=>.ok l k:=by
 unfold runP exprAll exprRd
 split <;> rfl
theorem exprAll_ne(l:List Op)(s:List UInt8):exprAll l s≠.out:=by
 unfold exprAll
 split
 ·simp
 ·exact exprTop_ne _
theorem exprAll_nz(l:List Op)(s:List UInt8):NzE (exprAll l s):=by
 unfold exprAll
 split
 ·rename_i h
  intro c a e
  cases e
  exact h
 ·exact nz_exprTop _
theorem exprAll_ok{l:List Op}{s:List UInt8}{t:Raw}{k:Nat}(h:exprAll l s=.ok t k):PE.exprTop ⟨(lex s).1,s.length,l⟩=.ok t k:=by
 unfold exprAll at h
 split at h
 ·cases h
 ·exact h
end Lfc
namespace Go.Proofs.YthajalgkjonaaaaGreatDoor
open Go.RowKit
def BoxT(X lo:Nat)(t:Lfc.Raw)(W:World):Prop:=∃k n q us A c,t=.node k n q us∧W.heap[X]?=some (.cells #[.int .i64 k,S n,.int .i64 q,.slice A us.length c] 46 (0,0))∧TreeP (fun b=>lo≤b) W t (.int .i64 k) (S n) (.int .i64 q) (.slice A us.length c)
def Box4(X:Nat)(W:World):Prop:=∃a0 a1 a2 a3,W.heap[X]?=some (.cells #[a0,a1,a2,a3] 46 (0,0))
theorem BoxT.same{X lo:Nat}{t:Lfc.Raw}{W W':World}(h:BoxT X lo t W)(hs:W.heap.size≤W'.heap.size)(hb:∀b,b<W.heap.size→b=X∨lo≤b→W'.heap[b]?=W.heap[b]?):BoxT X lo t W':=by
 obtain⟨k,n,q,us,A,c,e,hq,ht⟩:=h
 exact⟨k,n,q,us,A,c,e,(hb X (lt_of_block hq) (.inl rfl)).trans hq,TreeP.keep (fun b hb' hlt=>hb b hlt (.inr hb')) hs (fun _ _ h=>h) _ _ _ _ _ ht⟩
set_option maxRecDepth 100000 in
set_option maxHeartbeats 4000000 in
theorem expr1_any(p:Lfc.PE)(ok:POk p)(P X lo:Nat)(G:Hd)(w:World)(v0 v1 v2 v3:Value)(h:PW w P G p 0)(hX:w.heap[X]?=some (.cells #[v0,v1,v2,v3] 46 (0,0)))(hXP:X≠P)(hlo:lo≤w.heap.size)(hXl:X<lo)(hG:G.from lo) :
  Calls Tryz.prog 34 #[.pointer (some ⟨P,0,none⟩),.pointer (some ⟨X,0,none⟩)] w (RdR P X p w (Box4 X) (fun l W=>∃t k,p.exprTop=.ok t k∧BoxT X lo t W) ((p.exprTop).then fun _ k=>.ok p.ops k)):=by
 have hP:=h.lt
 have hlen:=ok.len
 have CE:=expr_any p ok P 0 G w (by omega) h
 have CU:Hid (∀W k,PW W P G p k→k≤p.toks.length→Calls Tryz.prog 36 #[.pointer (some ⟨P,0,none⟩)] W fun e w'=>e=Flt (p.ux k).1 (p.ux k).2∧Below W.heap.size W w'):=Lib.hid fun W k hW hk=>unexpected_any W hW hk ok
 have HET:Hid (p.exprTop=(p.expr 0).then fun t k=>if k<p.toks.length then p.unexp k else .ok t k):=Lib.hid rfl
 have HW:=Lib.hid h
 have HX:=Lib.hid hX
 have hXlt:=lt_of_block hX
 cases hr:p.expr 0 with
 |out=>exact absurd hr (Lfc.expr_ne p 0)
 |err cc aa =>
  rw[hr] at CE
  have CE:=Lib.hid CE
  have HF:Hid (p.exprTop.then (fun _ k=>(.ok p.ops k:Lfc.PR (List Lfc.Op)))=.err cc aa):=Lib.hid (by rw[HET.out,hr];rfl)
  clear hr h hX ok
  rw[HF.out]
  go_enter Tryz.func34,Tryz.ntmps34
  go_wp2_with (go_at_call 35;refine CE.out.mono ?_;rintro e w1⟨rfl,o1⟩)
  exact⟨rfl,rfl,⟨o1.os,o1.tape,o1.output,o1.size,fun k hk h1 _=>o1.block k hk (fun e=>h1 (Option.some.inj e))⟩,_,_,_,_,o1.heap HX.out hXP⟩
 | ok t k =>
  rw[hr] at CE
  have CE:=Lib.hid CE
  have hk:k≤p.toks.length:=by
   have:=(Lfc.exprG_b (Lfc.opdF_b p _) hr).2.1
   omega
  have HET2:Hid (p.exprTop=if k<p.toks.length then p.unexp k else .ok t k):=Lib.hid (by rw[HET.out,hr];rfl)
  clear hr h hX ok
  go_enter Tryz.func34,Tryz.ntmps34
  go_upto_region 1 with(go_at_call 35;refine CE.out.mono ?_;rintro e w1⟨⟨v,rfl,hv⟩,h1,o1⟩;obtain⟨k5,n5,p5,us5,A5,c5,ht5,rfl,hp5⟩:=TreeVP.parts4 hv;obtain⟨s1,s2,s3,s4,g1,g2,g3,g4,⟨y0,y1,y2,y3⟩,⟨f0,f1,f2,f3⟩,hq,ho⟩:=put4 (o1.heap HX.out hXP) (.int .i64 k5) (S n5) (.int .i64 p5) (.slice A5 us5.length c5))
  have hs1:=o1.size
  have hs4:=ho.size
  have o4:Oth2 P X w s4:=⟨ho.os.trans o1.os,ho.tape.trans o1.tape,ho.output.trans o1.output,by omega,fun j hj h1 h2=>(ho.block j (by omega) (fun e=>h2 (Option.some.inj e))).trans (o1.block j hj (fun e=>h1 (Option.some.inj e)))⟩
  have h4:PW s4 P G p k:=HW.out.to2 hG hXl o4 ((ho.block P h1.lt (fun e=>hXP (Option.some.inj e).symm)).trans h1.1)
  obtain⟨x0,x1,x2,x3,_,_,_,_⟩:=h4.cells
  have O4:=Lib.hid o4
  have H4:=Lib.hid h4
  have BT:Hid (BoxT X lo t s4):=Lib.hid ⟨k5,n5,p5,us5,A5,c5,ht5,hq,TreeP.keep (w:=w1) (fun b hb hlt=>ho.block b hlt (fun e=>by have:=Option.some.inj e;omega)) ho.size (fun b _ hb=>by omega) _ _ _ _ _ hp5⟩
  clear hv o4 h4 hq ho hp5 ht5 y0 y1 y2 y3 f0 f1 f2 f3 g1 g2 g3 g4 h1 o1
  by_cases hlt:k<p.toks.length
  ·have hlt2:decide ((k:Int)<(p.toks.length:Int))=true:=by simpa using hlt
   have HF:Hid (p.exprTop.then (fun _ k=>(.ok p.ops k:Lfc.PR (List Lfc.Op)))=.err (p.ux k).1 (p.ux k).2):=Lib.hid (by rw[HET2.out,if_pos hlt,unexp_eq];rfl)
   go_region
   go_wp2_with (go_at_call 36;refine(CU.out _ k H4.out.drew hk).mono ?_;rintro e w5⟨rfl,b5⟩)
   rw[HF.out]
   obtain⟨_,_,_,_,_,_,_,hq5,_⟩:=BT.out
   exact⟨rfl,rfl,⟨b5.os.trans O4.out.os,b5.tape.trans O4.out.tape,b5.output.trans O4.out.output,Nat.le_trans O4.out.size b5.size,fun j hj h1 h2=>(b5.block j (Nat.lt_of_lt_of_le hj O4.out.size)).trans (O4.out.block j hj h1 h2)⟩,_,_,_,_,(b5.block _ (lt_of_block hq5)).trans hq5⟩
  ·have hlt2:decide ((k:Int)<(p.toks.length:Int))=false:=by simpa using hlt
   have HT:Hid (p.exprTop=.ok t k):=Lib.hid (by rw[HET2.out,if_neg hlt])
   have HF:Hid (p.exprTop.then (fun _ k=>(.ok p.ops k:Lfc.PR (List Lfc.Op)))=.ok p.ops k):=Lib.hid (by rw[HT.out];rfl)
   go_region
   go_wp2_with fail
   go_end0
   rw[HF.out]
   exact⟨rfl,⟨G,H4.out.drew⟩,⟨O4.out.os,O4.out.tape,O4.out.output,O4.out.size,O4.out.block⟩,t,k,HT.out,BT.out.same (Nat.le_refl _) (fun _ _ _=>rfl)⟩
def ExprR(n:Nat)(w:World):Lfc.PR Lfc.Raw→Ending→World→Prop
 |.out,_,_=>True
 |.err c a,e,w'=>e=.returned (.tuple #[.agg #[.int .i64 0,S [],.int .i64 0,.slice none 0 0],.int .i64 c,.int .i64 (a:Int)])∧Below w.heap.size w w'
 |.ok t _,e,w'=>(∃v,e=.returned (.tuple #[v,.int .i64 0,.int .i64 (n:Int)])∧TreeV w' t v)∧Below w.heap.size w w'
theorem results_raw3{fn:Func}{p u t:Tmp}(h:fn.results=#[.cell p 46,.tmp u,.tmp t])(tmps:Array Value)(w:World)(g:Nat)(v0 v1 v2 v3:Value)(hp:tmps.getD p undef=.pointer (some ⟨g,0,none⟩))(hg:w.heap[g]?=some (.cells #[v0,v1,v2,v3] 46 (0,0))) :
  (results fn tmps).run Tryz.prog w=.ok (.tuple #[.agg #[v0,v1,v2,v3],tmps.getD u undef,tmps.getD t undef]) w:=by
 have hp':tmps[p]?.getD undef=.pointer (some ⟨g,0,none⟩):=by simpa using hp
 simp[results,h,hp',asAddr,run_loadVar_row w g _ _ _ _ _ hg Tryz.underlying46 rfl raw_size]
set_option maxRecDepth 100000 in
set_option maxHeartbeats 4000000 in
theorem pexpr_any(l:List Lfc.Op)(A:Option Addr)(c:Nat)(s:List UInt8)(w:World)(hl:l.length≤1000000)(ha:OpsAt w A l)(hs:s.length≤9223372036854775807) :
  Calls Tryz.prog 15 #[.slice A l.length c,S s] w (ExprR s.length w (Lfc.exprAll l s)):=by
 have hmf:∀(fn:Fn)(first cap:Array Value)(w:World),(Instr.makeFunc fn first cap).run Tryz.prog w=.ok (.func fn first cap) w:=fun _ _ _ _=>rfl
 obtain⟨wa,hwa⟩:∃wa,(w.alloc (.cells #[.int .i64 0,S [],.int .i64 0,.slice none 0 0] 46)).alloc (.cells #[.int .i64 0,S [],.int .i64 0,.slice none 0 0] 46)=wa:=⟨_,rfl⟩
 have ba:Below w.heap.size w wa:=by rw[←hwa];exact((Below.refl _ _).alloc (Nat.le_refl _) _).alloc (by simp) _
 have q0:wa.heap[w.heap.size]?=some (.cells #[.int .i64 0,S [],.int .i64 0,.slice none 0 0] 46 (0,0)):=by rw[←hwa];exact heap_alloc_old _ _ _ _ (heap_alloc_new _ _)
 have q1:wa.heap[w.heap.size+1]?=some (.cells #[.int .i64 0,S [],.int .i64 0,.slice none 0 0] 46 (0,0)):=by
  rw[←hwa]
  have:=heap_alloc_new (w.alloc (.cells #[.int .i64 0,S [],.int .i64 0,.slice none 0 0] 46)) (.cells #[.int .i64 0,S [],.int .i64 0,.slice none 0 0] 46)
  simpa using this
 have hsa:=eq2 (show wa.heap.size=w.heap.size+2 by rw[←hwa];simp)
 have CR:=prun_any 34 (fun _ _=>rfl) (w.heap.size+1) l A c s (Lfc.exprRd s.length l) (Box4 (w.heap.size+1)) (fun _ W=>∃t k,Lfc.PE.exprTop ⟨(Lfc.lex s).1,s.length,l⟩=.ok t k∧BoxT (w.heap.size+1) (wa.heap.size+3) t W) wa hl (ha.below ba) hs (by omega) (fun _=>Lfc.exprRd_ne _ _ _)
  (fun _ W W' ⟨t,k,e,hb⟩ ho=>⟨t,k,e,hb.same ho.size (fun b hlt hb=>ho.block b hlt (by omega) (by omega) (by omega))⟩)
  (fun W hb=>⟨_,_,_,_,(hb.block _ (by omega)).trans q1⟩) (fun W W' ⟨_,_,_,_,h⟩ ho=>⟨_,_,_,_,(ho.block _ (lt_of_block h) (by omega) (by omega) (by omega)).trans h⟩)
  (fun P G W _ hbW hP hpw ok hG=>expr1_any ⟨(Lfc.lex s).1,s.length,l⟩ ok P (w.heap.size+1) (wa.heap.size+3) G W _ _ _ _ hpw ((hbW.block _ (by omega)).trans q1) (by omega) (by have:=hpw.lt;omega) (by omega) hG)
 have CR:=Lib.hid CR
 have BA:=Lib.hid ba
 have Q0:=Lib.hid q0
 have Q1:=Lib.hid q1
 clear ba q0 q1 ha
 go_enter Tryz.func15,Tryz.ntmps15
 go_upto_region 2 with fail
 clear hwa
 have HRP:=Lib.hid (Lfc.runP_all l s)
 cases hre:Lfc.exprAll l s with
 |out=>exact absurd hre (Lfc.exprAll_ne l s)
 |err cc aa =>
  have hcc:=Lfc.exprAll_nz l s cc aa hre
  have hc2:(cc != 0)=true:=by simpa using hcc
  have CRE:=CR.out
  rw[HRP.out,hre] at CRE
  have CRE:=Lib.hid CRE
  have HRE:=Lib.hid hre
  clear hre hcc CR
  go_upto_region 3 with(go_at_call 33;refine CRE.out.mono ?_;rintro e w1⟨rfl,o1,a0,a1,a2,a3,ha⟩)
  have hs1:=o1.size
  obtain⟨s1,s2,s3,s4,g1,g2,g3,g4,⟨y0,y1,y2,y3⟩,⟨f0,f1,f2,f3⟩,hq,ho⟩:=put4 ha (.int .i64 0) (S []) (.int .i64 0) (.slice none 0 0)
  obtain⟨x0,x1,x2,x3⟩:=cells4 hq
  obtain⟨t1,t2,t3,t4,g5,g6,g7,g8,⟨z0,z1,z2,z3⟩,⟨f4,f5,f6,f7⟩,hq2,ho2⟩:=put4 (ho.heap (o1.heap Q0.out (by omega)) (by omega)) (.int .i64 0) (S []) (.int .i64 0) (.slice none 0 0)
  have hs4:=ho.size
  have HQ:=Lib.hid hq2
  have HBB:Hid (Below w.heap.size w t4):=Lib.hid (Oth.below (Oth.below (Oth.below BA.out o1 (by omega) (by omega)) ho (by omega) (by omega)) ho2 (Nat.le_refl _) (by omega))
  clear hq hq2 ho ho2 ha o1
  go_wp2_with fail
  refine bodyPost_ret (results_raw3 rfl _ _ _ _ _ _ _ rfl HQ.out) rfl ?_
  rw[HRE.out]
  exact⟨rfl,HBB.out⟩
 |ok t k =>
  have hto:=Lfc.exprAll_ok hre
  have CRE:=CR.out
  rw[HRP.out,hre] at CRE
  have CRE:=Lib.hid CRE
  have HTO:=Lib.hid hto
  have HRE:=Lib.hid hre
  clear hre CR hto
  go_upto_region 3 with(go_at_call 33;refine CRE.out.mono ?_;rintro e w1⟨⟨A1,d1,rfl,_⟩,o1,t',k',ht',hb⟩)
  obtain⟨rfl,rfl⟩:t=t'∧k=k':=by rw[HTO.out] at ht';cases ht';exact⟨rfl,rfl⟩
  obtain⟨k5,n5,p5,us5,A5,c5,ht5,q5,hp5⟩:=hb
  obtain⟨x0,x1,x2,x3⟩:=cells4 q5
  have hs1:=o1.size
  obtain⟨s1,s2,s3,s4,g1,g2,g3,g4,⟨y0,y1,y2,y3⟩,⟨f0,f1,f2,f3⟩,hq,ho⟩:=put4 (o1.heap Q0.out (by omega)) (.int .i64 k5) (S n5) (.int .i64 p5) (.slice A5 us5.length c5)
  have HQ:=Lib.hid hq
  have HT:Hid (TreeV s4 t (.agg #[.int .i64 k5,S n5,.int .i64 p5,.slice A5 us5.length c5])):=Lib.hid (TreeVP.toV ⟨_,_,_,_,rfl,TreeP.keep (w:=w1) (fun b hb hlt=>ho.block b hlt (fun e=>by have:=Option.some.inj e;omega)) ho.size (fun b _ hb=>hb) _ _ _ _ _ hp5⟩)
  have HBB:Hid (Below w.heap.size w s4):=Lib.hid (Oth.below (Oth.below BA.out o1 (by omega) (by omega)) ho (Nat.le_refl _) (by omega))
  clear hq ho hp5 q5 ht5 o1 ht' HTO
  go_wp2_with fail
  refine bodyPost_ret (results_raw3 rfl _ _ _ _ _ _ _ rfl HQ.out) rfl ?_
  rw[HRE.out]
  exact⟨⟨_,rfl,HT.out⟩,HBB.out⟩
end Go.Proofs.YthajalgkjonaaaaGreatDoor
namespace Go.Proofs.YthajalgkjonaaaaGreatDoor
open Go.RowKit Go.Maps Go.WideMaps
section
variable {P:Program} (w:World)
theorem step_append_strB{ops:Array Oper}{o:Oper}{a:Act}{K:Act→World→Prop}{Q:Exit→Act→World→Prop}{E:Prop}(hgd:o.guard=none)(sl x:Operand)(t u:TypeId)
  (ho:o.op=.call { callee:=.builtin .append,args:=#[sl,x],argTypes:=#[t,u] })
  (base:Nat) (e:TypeId) (i:TypeInfo) (ht:P.underlying t=some (.slice e)) (hu:P.underlying u=some .string) (hi:P.info? e=some i) (hz:i.zero=some (.int .u8 0))
  (hsize:i.size=1) (hby:i.bytes=1)
  (v:Value) (n:Nat) (xs:List Value) (hs:a.eval sl=v) (hown:w.ownsRow base e 1 v n xs) (s:ByteArray) (hx:a.eval x=.string s)
  (h63:n+s.size≤maxLen) (hbytes:n+s.size≤140737488355328) (hbase:base≤w.heap.size)
  (h:∀v' w',w'.ownsRow base e 1 v' (n+s.size) (xs++Lib.strCells s)→w.grownBy w' v.ownBlock→K (a.put o.dst v') w') :
  if Region.wanted o (yielded ops a.tmps)=true then Oper.wp P o a w K Q else E:=by
 have hw:Region.wanted o (yielded ops a.tmps)=true:=by simp[Region.wanted,hgd]
 rw[if_pos hw]
 obtain⟨v',w',hr,h2,h3,_⟩:=Lib.run_append_own_string (P:=P) w base t u o.type e i ht hu hi hz hsize hby v n xs hown s h63 hbytes hbase
 unfold Oper.wp execOp
 simp only[ho,resolve,invoke,builtin,Sem.run_bind,Sem.run_pure,Result.andThen_ok,List.map_toArray,List.map_cons,List.map_nil,hs,hx,hr]
 exact h v' w' h2 h3
end
def KeptU(w w':World):Prop:=∀(k:Nat)(c:Array Value)(t:TypeId),w.heap[k]?=some (.cells c t (0,0))→t≠5→w'.heap[k]?=some (.cells c t (0,0))
theorem KeptU.trans{w w' w'':World}(h:KeptU w w')(h':KeptU w' w''):KeptU w w'':=fun k c t hk h1=>h' k c t (h k c t hk h1) h1
theorem KeptU.new{w w':World}(h:Below w.heap.size w w'):KeptU w w':=fun k _ _ hk _=>(h.block k (lt_of_block hk)).trans hk
theorem KeptU.grown{w w':World}{base n:Nat}{v:Value}{xs:List Value}(hown:w.ownsRow base 5 1 v n xs)(hg:w.grownBy w' v.ownBlock):KeptU w w':=fun k c t hk h1 =>
 (hg.block k (lt_of_block hk) (fun e=>Lib.ownBlock_ne hown hk h1 e.symm)).trans hk
structure BS(w0:World)(w:World)(R:Nat)(box:Array Value)(acc:List UInt8)(wr:World)(vr:Value):Prop where
 own:wr.ownsRow w0.heap.size 5 1 vr acc.length (Lib.byteCells acc)
 kept:KeptU w wr
 bel:Below w0.heap.size w0 wr
 box:wr.heap[R]?=some (.cells box 46 (0,0))
theorem BS.next{w0 w wr w2:World}{vr v2:Value}{R:Nat}{box:Array Value}{acc acc':List UInt8}(h:BS w0 w R box acc wr vr)(hown:w2.ownsRow w0.heap.size 5 1 v2 acc'.length (Lib.byteCells acc'))(hg:KeptU wr w2)(hb:Below w0.heap.size w0 w2):BS w0 w R box acc' w2 v2 :=
 ⟨hown,h.kept.trans hg,hb,hg _ _ _ h.box (by decide)⟩
theorem BS.new{w0 w wr w2:World}{vr:Value}{R:Nat}{box:Array Value}{acc:List UInt8}(h:BS w0 w R box acc wr vr)(hb:Below wr.heap.size wr w2):BS w0 w R box acc w2 vr :=
 h.next (own_below h.own hb) (KeptU.new hb) (h.bel.trans (hb.mono h.bel.size))
theorem BS.push{w0 w wr w2:World}{vr v':Value}{R:Nat}{box:Array Value}{acc bs:List UInt8}(h:BS w0 w R box acc wr vr)(hown2:w2.ownsRow w0.heap.size 5 1 v' (acc.length+bs.length) (Lib.byteCells acc++Lib.byteCells bs))(hg2:wr.grownBy w2 vr.ownBlock):BS w0 w R box (acc++bs) w2 v':=by
 have e:Lib.byteCells (acc++bs)=Lib.byteCells acc++Lib.byteCells bs:=by simp[Lib.byteCells]
 exact h.next (by rw[e,List.length_append];exact hown2) (KeptU.grown h.own hg2) (h.bel.grown hg2 h.bel.size (own_block_ge h.own))
theorem BS.pushS{w0 w wr w2:World}{vr v':Value}{R:Nat}{box:Array Value}{acc bs:List UInt8}(h:BS w0 w R box acc wr vr)(hown2:w2.ownsRow w0.heap.size 5 1 v' (acc.length+(⟨bs.toArray⟩:ByteArray).size) (Lib.byteCells acc++Lib.strCells ⟨bs.toArray⟩))(hg2:wr.grownBy w2 vr.ownBlock):BS w0 w R box (acc++bs) w2 v':=by
 rw[bsize] at hown2
 exact h.push (by simpa[Lib.strCells,Lib.byteCells] using hown2) hg2
def RFmtUpto(w0:World)(q:List (List UInt8))(Aq:Option Addr)(cq:Nat)(m:Nat):Prop:=∀(t:Lfc.Raw)(v:Value)(w:World)(acc:List UInt8)(vb:Value),t.size≤m→t.form=true→TreeV w0 t v→Below w0.heap.size w0 w→w.ownsRow w0.heap.size 5 1 vb acc.length (Lib.byteCells acc)→acc.length+(t.text q).length≤10000000000 →
  Calls Tryz.prog 38 #[vb,v,.slice Aq q.length cq] w fun e w'=>∃vb',e=.returned vb'∧w'.ownsRow w0.heap.size 5 1 vb' (acc++t.text q).length (Lib.byteCells (acc++t.text q))∧KeptU w w'∧Below w0.heap.size w0 w'
theorem byte_one(c:UInt8):∀u∈[Value.int .u8 (c.toNat:Int)],u.oneCell'=true:=by
 intro u hu;simp at hu;subst hu;rfl
set_option maxRecDepth 100000 in
set_option maxHeartbeats 4000000 in
theorem rtwo_any(w0:World)(q:List (List UInt8))(Aq:Option Addr)(cq m:Nat)(ih:RFmtUpto w0 q Aq cq m)(k p:Int)(n mid:List UInt8)(a a':Lfc.Raw)(hm:a.size+a'.size≤m)(hfa:a.form=true)(hfa':a'.form=true)(v:Value)(w:World)(acc:List UInt8)(vb:Value)(hv:TreeV w0 (.node k n p [a,a']) v)(hb0:Below w0.heap.size w0 w)(hown:w.ownsRow w0.heap.size 5 1 vb acc.length (Lib.byteCells acc))(hl:acc.length+((a.text q).length+mid.length+(a'.text q).length+2)≤10000000000) :
  Calls Tryz.prog 70 #[vb,v,.slice Aq q.length cq,S mid] w fun e w'=>∃vb',e=.returned vb'∧w'.ownsRow w0.heap.size 5 1 vb' (acc++([40]++a.text q++mid++a'.text q++[41])).length (Lib.byteCells (acc++([40]++a.text q++mid++a'.text q++[41])))∧KeptU w w'∧Below w0.heap.size w0 w':=by
 obtain⟨A,c,rfl,hc,hA⟩:=hv.open_
 simp only[List.length_cons,List.length_nil,Nat.zero_add,Nat.reduceAdd] at *
 have IH:=Lib.hid ih
 obtain⟨i0,hi0,hz0,hz1,hz2⟩:=info_parts byteInfo
 obtain⟨Bk,O,k1,n1,p1,us,B1,c1,rfl,hbB,ht,d0,d1,d2,d3,hcu,hB1,hT⟩:=hA.at_ (i:=0) (by simp)
 obtain⟨B2',O',k2,n2,p2,ys,B2,c2,hBO,hb',ht',e0,e1,e2,e3,hcu',hB2,hT'⟩:=hA.at_ (i:=1) (by simp)
 simp only[List.getElem_cons_zero,List.getElem_cons_succ,Nat.zero_mul,Nat.one_mul,Nat.add_zero] at hT ht d0 d1 d2 d3 hT' ht' e0 e1 e2 e3
 cases hBO
 clear ht hB1 hA ht' hB2 hb'
 obtain⟨wa,hwa⟩:∃wa,w.alloc (.cells #[.int .i64 k,S n,.int .i64 p,.slice (some ⟨Bk,O,none⟩) 2 c] 46)=wa:=⟨_,rfl⟩
 have ba:Below w.heap.size w wa:=by rw[←hwa];exact(Below.refl _ _).alloc (Nat.le_refl _) _
 have qa:wa.heap[w.heap.size]?=some (.cells #[.int .i64 k,S n,.int .i64 p,.slice (some ⟨Bk,O,none⟩) 2 c] 46 (0,0)):=by rw[←hwa];exact heap_alloc_new _ _
 have H0:Hid (BS w0 w w.heap.size #[.int .i64 k,S n,.int .i64 p,.slice (some ⟨Bk,O,none⟩) 2 c] acc wa vb):=Lib.hid ⟨own_below hown ba,KeptU.new ba,hb0.trans (ba.mono hb0.size),qa⟩
 have SC:=Lib.hid (fun(wx:World) (vx:Value) (ax:List UInt8) (h:BS w0 w w.heap.size #[.int .i64 k,S n,.int .i64 p,.slice (some ⟨Bk,O,none⟩) 2 c] ax wx vx)=>show wx.cell? ⟨w.heap.size,3,none⟩=some (.slice (some ⟨Bk,O,none⟩) 2 c)∧(wx.cell? ⟨Bk,O,none⟩=some (.int .i64 k1)∧wx.cell? ⟨Bk,O+1,none⟩=some (S n1)∧wx.cell? ⟨Bk,O+2,none⟩=some (.int .i64 p1)∧wx.cell? ⟨Bk,O+3,none⟩=some (.slice B1 us.length c1))∧(wx.cell? ⟨Bk,O+4,none⟩=some (.int .i64 k2)∧wx.cell? ⟨Bk,O+4+1,none⟩=some (S n2)∧wx.cell? ⟨Bk,O+4+2,none⟩=some (.int .i64 p2)∧wx.cell? ⟨Bk,O+4+3,none⟩=some (.slice B2 ys.length c2)) from
  ⟨Lib.cell_of_heap h.box 3,⟨(h.bel.cell (p:=⟨Bk,_,none⟩) hbB).trans d0,(h.bel.cell (p:=⟨Bk,_,none⟩) hbB).trans d1,(h.bel.cell (p:=⟨Bk,_,none⟩) hbB).trans d2,(h.bel.cell (p:=⟨Bk,_,none⟩) hbB).trans d3⟩,⟨(h.bel.cell (p:=⟨Bk,_,none⟩) hbB).trans e0,(h.bel.cell (p:=⟨Bk,_,none⟩) hbB).trans e1,(h.bel.cell (p:=⟨Bk,_,none⟩) hbB).trans e2,(h.bel.cell (p:=⟨Bk,_,none⟩) hbB).trans e3⟩⟩)
 obtain⟨Al,cl,rfl⟩:=own_form hown
 have hlm:acc.length+1≤maxLen:=by unfold maxLen;omega
 have hlb:(acc.length+1)*1≤140737488355328:=by omega
 have hsz0:=H0.out.bel.size
 have h1a:a.size≤m:=by omega
 have h1b:a'.size≤m:=by omega
 have h4a:(acc++[40]).length+(a.text q).length≤10000000000:=by simp only[List.length_append,List.length_singleton];omega
 have h4b:(acc++[40]++a.text q++mid).length+(a'.text q).length≤10000000000:=by simp only[List.length_append,List.length_singleton];omega
 clear qa ba hv ih hown hb0 d0 d1 d2 d3 e0 e1 e2 e3
 go_enter Tryz.func70,Tryz.ntmps70
 go_upto_region 1 with fail
 clear hwa
 go_region_held3 (fun w'=>w'.cell? ⟨w.heap.size,3,none⟩=some (.slice (some ⟨Bk,O,none⟩) 2 c)∧(w'.cell? ⟨Bk,O,none⟩=some (.int .i64 k1)∧w'.cell? ⟨Bk,O+1,none⟩=some (S n1)∧w'.cell? ⟨Bk,O+2,none⟩=some (.int .i64 p1)∧w'.cell? ⟨Bk,O+3,none⟩=some (.slice B1 us.length c1))∧(w'.cell? ⟨Bk,O+4,none⟩=some (.int .i64 k2)∧w'.cell? ⟨Bk,O+4+1,none⟩=some (S n2)∧w'.cell? ⟨Bk,O+4+2,none⟩=some (.int .i64 p2)∧w'.cell? ⟨Bk,O+4+3,none⟩=some (.slice B2 ys.length c2)))
  (first | exact SC.out _ _ _ (H0.out.new (Below.refl _ _).drew) | exact SC.out _ _ _ (H0.out.new ((Below.refl _ _).alloc (Nat.le_refl _) _).drew) | exact SC.out _ _ _ H1.out | exact SC.out _ _ _ H2.out)
  (first
   |(go_at_call 38;refine(IH.out a _ _ (acc++[40]) _ h1a hfa hT H1.out.bel H1.out.own h4a).mono ?_;rintro e w2⟨v2,rfl,hown2,hg2,hb2⟩;have H2:=Lib.hid (H1.out.next hown2 hg2 hb2))
   |(refine step_append_own_at _ (by rfl) _ _ 68 (by rfl) w0.heap.size 5 i0 (.int .u8 0) 1 1 Tryz.underlying68 hi0 hz0 hz1 hz2 rfl (by decide) _ _ _ (by rfl) ((H0.out.own.alloc _).drew) ⟨wa.heap.size,0,none⟩ 1 1 [.int .u8 40] (by rfl) (by rfl) (fun j u h=>cell_one_new wa _ 5 j u h) (byte_one 40) hlm hlb (alloc_le hsz0) ?_;intro v1 w1 hown1 hg1 hloc1;have H1:=Lib.hid ((H0.out.new (((Below.refl _ _).alloc (Nat.le_refl _) _).drew)).push (bs:=[40]) hown1 hg1)))
 go_wp2_with fail
 have hlm2:(acc++[40]++a.text q).length+(⟨mid.toArray⟩:ByteArray).size≤maxLen:=by rw[bsize];simp only[List.length_append,List.length_singleton];unfold maxLen;omega
 have hlb2:(acc++[40]++a.text q).length+(⟨mid.toArray⟩:ByteArray).size≤140737488355328:=by rw[bsize];simp only[List.length_append,List.length_singleton];omega
 have hsz2:=H2.out.bel.size
 clear hown2 hg2 hb2 hown1 hg1 hloc1
 go_region_held3 (fun w'=>w'.cell? ⟨w.heap.size,3,none⟩=some (.slice (some ⟨Bk,O,none⟩) 2 c)∧(w'.cell? ⟨Bk,O,none⟩=some (.int .i64 k1)∧w'.cell? ⟨Bk,O+1,none⟩=some (S n1)∧w'.cell? ⟨Bk,O+2,none⟩=some (.int .i64 p1)∧w'.cell? ⟨Bk,O+3,none⟩=some (.slice B1 us.length c1))∧(w'.cell? ⟨Bk,O+4,none⟩=some (.int .i64 k2)∧w'.cell? ⟨Bk,O+4+1,none⟩=some (S n2)∧w'.cell? ⟨Bk,O+4+2,none⟩=some (.int .i64 p2)∧w'.cell? ⟨Bk,O+4+3,none⟩=some (.slice B2 ys.length c2)))
  (first | exact SC.out _ _ _ (H2.out.new (Below.refl _ _).drew) | exact SC.out _ _ _ H3.out | exact SC.out _ _ _ H4.out)
  (first
   |(go_at_call 38;refine(IH.out a' _ _ (acc++[40]++a.text q++mid) _ h1b hfa' hT' H3.out.bel H3.out.own h4b).mono ?_;rintro e w4⟨v4,rfl,hown4,hg4,hb4⟩;have H4:=Lib.hid (H3.out.next hown4 hg4 hb4))
   |(refine step_append_strB _ (by rfl) _ _ 68 9 (by rfl) w0.heap.size 5 i0 Tryz.underlying68 Tryz.underlying9 hi0 hz0 hz1 hz2 _ _ _ (by rfl) (H2.out.own.drew) ⟨mid.toArray⟩ (by rfl) hlm2 hlb2 hsz2 ?_;intro v3 w3 hown3 hg3;have H3:=Lib.hid ((H2.out.new (Below.refl _ _).drew).pushS hown3 hg3)))
 clear hown4 hg4 hb4 hown3 hg3
 have hlm4:(acc++[40]++a.text q++mid++a'.text q).length+1≤maxLen:=by simp only[List.length_append,List.length_singleton];unfold maxLen;omega
 have hlb4:((acc++[40]++a.text q++mid++a'.text q).length+1)*1≤140737488355328:=by simp only[List.length_append,List.length_singleton];omega
 have hsz4:=H4.out.bel.size
 obtain⟨Z,hZ⟩:∃Z,acc++[40]++a.text q++mid++a'.text q=Z:=⟨_,rfl⟩
 rw[hZ] at H4 hlm4 hlb4
 have HZ:=Lib.hid hZ
 clear hZ
 go_wp2_with (at_builtin;refine wpList_append_own_at _ rfl _ _ 68 rfl w0.heap.size 5 i0 (.int .u8 0) 1 1 Tryz.underlying68 hi0 hz0 hz1 hz2 rfl (by decide) _ _ _ rfl (H4.out.own.alloc _) ⟨w4.heap.size,0,none⟩ 1 1 [.int .u8 41] rfl rfl (cell_one_new _ _ _) (byte_one 41) hlm4 hlb4 (alloc_le hsz4) ?_)
 intro v5 w5 hown5 hg5 _ _
 have H5:=Lib.hid ((H4.out.new ((Below.refl _ _).alloc (Nat.le_refl _) _)).push (bs:=[41]) hown5 hg5)
 clear hown5 hg5
 go_wp2_with fail
 go_ret
 refine⟨_,rfl,?_,H5.out.kept,H5.out.bel⟩
 have:=H5.out.own
 rw[←HZ.out] at this
 simpa[List.append_assoc] using this
end Go.Proofs.YthajalgkjonaaaaGreatDoor
