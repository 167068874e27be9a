/- Parts of the proof that no input makes the law false: SmRen, SmSize, SmSorts, SmRename, SmKinds, SmPart. -/
import Derived.Test.YtadjpadieljjlaaGreatIvAP
set_option linter.unusedVariables false
set_option linter.unusedSimpArgs false
set_option maxRecDepth 100000
set_option maxHeartbeats 32000000
namespace Go.Proofs.YtadjpadieljjlaaGreat
open Go.RowKit Go.Maps
attribute [local go_sem ↓] Go.wp_at_zero Go.wp_at_succ
theorem sRen_upto (m:Nat) (hmm:m≤1000000):∀ (t:Lfc.Raw) (v:Value) (d:Nat) (zs:List Int) (At:Option Addr) (ct:Nat) (w:World),t.size≤m→t.posB 1048576=true→d+t.size≤1000000→zs.length≤1000000→IntsO w At zs→TreeV w t v →
  Calls Tryz.prog 83 #[v,.slice At zs.length ct,.int .i64 (d:Int)] w (RenAns w t.size):=by
 induction m with
 | zero=>intro t v d zs At ct w h;have:=t.size_pos;omega
 | succ m ih0 =>
  intro t v d zs At ct w hm hpo hdt hzl hzs hv
  have HZS:=zH hzs
  obtain ⟨kd,nm,ps,ts⟩:=t
  have hnl:=hv.name_le
  obtain ⟨A,c,rfl,hc,hA⟩:=hv.open_
  have hszE:(Lfc.Raw.node kd nm ps ts).size=Lfc.Raw.sizes ts+1:=by rw [Lfc.Raw.size]
  rw [hszE] at hm hdt ⊢
  have hlen:=Lfc.Raw.sizes_len ts
  have IH:=zH (ih0 (by omega))
  have hpo2:(0≤ps∧ps≤1048576)∧Lfc.headB kd ps nm ts.length=true∧Lfc.Raw.posBs 1048576 ts=true:=by
   rw [Lfc.Raw.posB] at hpo
   simp only [Bool.and_eq_true,decide_eq_true_eq] at hpo
   exact ⟨hpo.1.1,hpo.1.2,hpo.2⟩
  obtain ⟨⟨hp0,hp1⟩,hhd,hpos⟩:=hpo2
  have HHD:=zH hhd
  have HPOS:=zH (Lfc.posBs_at 1048576 ts hpos)
  obtain ⟨i0,hi,hz0,hz1,hz2⟩:=term_infoM
  obtain ⟨w1,hw1⟩:∃w1,w.alloc (.cells #[.int .i64 kd,S nm,.int .i64 ps,.slice A ts.length c] 51)=w1:=⟨_,rfl⟩
  obtain ⟨w2,hw2⟩:∃w2,w1.alloc (.cells #[.int .i64 0,S [],.int .i64 0,.slice none 0 0] 51)=w2:=⟨_,rfl⟩
  obtain ⟨w3,hw3⟩:∃w3,w2.alloc (.cells #[.int .i64 kd,S nm,.int .i64 ps,.slice none 0 0] 51)=w3:=⟨_,rfl⟩
  have b1:=zG hw1
  have b2:=zG hw2
  have b3:=zG hw3
  have q1:=zQ hw1
  have q2:=zQ hw2
  have q3:=zQ hw3
  have l1:=zL q1
  have l2:=zL q2
  have l3:=zL q3
  have b12:Below w.heap.size w w2:=b1.trans (b2.mono (by omega))
  have B12:=zH b12
  have Q1:=zH ((b2.block _ l1).trans q1)
  have Q2:=zH q2
  have Q3:=zH q3
  have B3:=zH b3
  have HA:=zH (hA.below b12)
  have HZ2:=zH (HZS.out.below b12)
  obtain ⟨x0,x1,x2,x3⟩:=cells4t ((b3.block _ (by omega)).trans Q1.out)
  have H3:=zH hw3
  have hl02:w.heap.size<w2.heap.size:=by omega
  clear hA hv hpo ih0 b1 b2 b3 q1 q2 q3 hzs hw3 hszE hpos b12 hhd
  go_enter Tryz.func83,Tryz.ntmps83
  go_upto_region 1 with fail
  clear hw1 hw2
  obtain ⟨y0,y1,y2,y3⟩:=cells4t Q1.out
  go_upto_region 2 with fail
  rw [H3.out]
  clear y0 y1 y2 y3 H3
  have hv6:((kd == 5)=false∧¬ (kd=5∧(d:Int)≤ps))∨((kd == 5)=true∧decide (ps≥(d:Int))=false∧¬ (kd=5∧(d:Int)≤ps))∨((kd == 5)=true∧decide (ps≥(d:Int))=true∧(kd=5∧(d:Int)≤ps)):=by
   by_cases e:kd=5
   ·by_cases e2:(d:Int)≤ps
    ·exact .inr (.inr ⟨by simp [e],by rw [decide_eq_true_eq];exact e2,e,e2⟩)
    exact .inr (.inl ⟨by simp [e],by rw [decide_eq_false_iff_not];exact e2,fun h=>e2 h.2⟩)
   exact .inl ⟨by simpa using e,fun h=>e h.1⟩
  have HV6:=zH hv6
  clear hv6
  go_cut [28] (fun s28 wx=>s28=.bool (decide (kd=5∧(d:Int)≤ps))∧wx=w3)
  case first =>
   rcases HV6.out with ⟨g5,h⟩ | ⟨g5,g6,h⟩ | ⟨g5,g6,h⟩
   all_goals
    have HH:=zH h
    clear h HV6
    go_wp2_with fail
    go_meet
    exact ⟨by first | exact (congrArg Value.bool (decide_eq_false HH.out)).symm | exact (congrArg Value.bool (decide_eq_true HH.out)).symm,rfl⟩
  case rest =>
  obtain ⟨rfl,hwc⟩:=hcut
  obtain rfl:=hwc.symm
  clear HV6 hwc
  obtain ⟨bv,hbv⟩:∃bv,decide (kd=5∧(d:Int)≤ps)=bv:=⟨_,rfl⟩
  have HBV:=zH hbv
  rw [hbv]
  clear hbv
  go_upto_if 28 with fail
  go_cut [9] (fun s9 wx=>∃p':Int,0≤p'∧p'≤1048576∧Hid (Lfc.headB kd p' nm ts.length=true)∧Hid (wx.heap[w2.heap.size]?=some (.cells #[.int .i64 kd,S nm,.int .i64 p',.slice none 0 0] 51 (0,0)))∧Hid (Below w2.heap.size w2 wx))
  case first =>
   cases bv
   case true =>
    obtain ⟨rfl,hdp⟩:=of_decide_eq_true HBV.out
    obtain ⟨i,rfl⟩:∃i:Nat,ps=(d:Int)+(i:Int):=⟨(ps-d).toNat,by omega⟩
    have hge:decide ((d:Int)+(i:Int)≥(d:Int))=true:=by rw [decide_eq_true_eq];omega
    have hwi:IntKind.i64.wrap ((d:Int)+(i:Int)-(d:Int))=(i:Int):=by rw [IntWalk.i64_in _ (by omega)];omega
    have hwm:IntKind.i64.wrap (1048576-(d:Int))=1048576-(d:Int):=IntWalk.i64_in _ (by omega)
    have BAD:Hid (∃s1 s2 s3 s4,w3.setCell ⟨w1.heap.size,0,none⟩ (.int .i64 0)=s1∧s1.setCell ⟨w1.heap.size,1,none⟩ (S [])=s2∧s2.setCell ⟨w1.heap.size,2,none⟩ (.int .i64 0)=s3∧s3.setCell ⟨w1.heap.size,3,none⟩ (.slice none 0 0)=s4 ∧
     (w3.cell? ⟨w1.heap.size,0,none⟩=some (.int .i64 0)∧s1.cell? ⟨w1.heap.size,1,none⟩=some (S [])∧s2.cell? ⟨w1.heap.size,2,none⟩=some (.int .i64 0)∧s3.cell? ⟨w1.heap.size,3,none⟩=some (.slice none 0 0)) ∧
     (w3.frozen? ⟨w1.heap.size,0,none⟩=false∧s1.frozen? ⟨w1.heap.size,1,none⟩=false∧s2.frozen? ⟨w1.heap.size,2,none⟩=false∧s3.frozen? ⟨w1.heap.size,3,none⟩=false) ∧
     s4.heap[w1.heap.size]?=some (.cells #[.int .i64 0,S [],.int .i64 0,.slice none 0 0] 51 (0,0))∧Hid (RenAns w (Lfc.Raw.sizes ts+1) (.returned (.tuple #[.agg #[.int .i64 0,S [],.int .i64 0,.slice none 0 0],.bool false])) s4)):=zH (by
      exact ren_ret (w2:=w2) (ts:=[]) false (by omega) (B12.out.trans (B3.out.mono (by omega))) ((B3.out.block _ l2).trans Q2.out) (by simp) ⟨fun h=>absurd rfl h,zN _⟩ (by simp [Lfc.Raw.sizes]) (fun h=>by cases h))
    have HGO:Hid (∀s,Oth w2.heap.size w3 s→Below w2.heap.size w2 s):=zH (fun s ho=>Oth.below B3.out ho (zN _) (by omega))
    by_cases hi1:zs.length≤i
    ·have hgi:decide ((i:Int)≥(zs.length:Int))=true:=by rw [decide_eq_true_eq];omega
     obtain ⟨s1,s2,s3,s4,g1,g2,g3,g4,⟨p0,p1,p2,p3⟩,⟨f0,f1,f2,f3⟩,hq,HZ⟩:=BAD.out
     have HQ:=zH hq
     clear hq BAD
     go_wp2_with fail
     refine bodyPost_ret (results_term2 rfl _ _ _ _ _ _ _ rfl HQ.out) rfl ?_
     exact HZ.out
    have hgi:decide ((i:Int)≥(zs.length:Int))=false:=by rw [decide_eq_false_iff_not];omega
    obtain ⟨bz,oz,rfl,hbz,hxz⟩:=HZ2.out (by intro h;rw [h] at hi1;exact hi1 (Nat.zero_le _))
    have xz:=(B3.out.cell (p:=⟨bz,oz+i,none⟩) hbz).trans (hxz i (by omega))
    have hi2:(0:Int)≤(i:Int):=by omega
    have hi3:(i:Int)<(zs.length:Int):=by omega
    generalize zs.getD i 0=zi at *
    clear hi1 hxz
    by_cases hzi:zi<0
    ·have hgz:decide (zi<0)=true:=by rw [decide_eq_true_eq];omega
     obtain ⟨s1,s2,s3,s4,g1,g2,g3,g4,⟨p0,p1,p2,p3⟩,⟨f0,f1,f2,f3⟩,hq,HZ⟩:=BAD.out
     have HQ:=zH hq
     clear hq hzi BAD
     go_wp2_with fail
     refine bodyPost_ret (results_term2 rfl _ _ _ _ _ _ _ rfl HQ.out) rfl ?_
     exact HZ.out
    have hgz:decide (zi<0)=false:=by rw [decide_eq_false_iff_not];omega
    by_cases hzm:1048576-(d:Int)<zi
    ·have hgm:decide (zi>1048576-(d:Int))=true:=by rw [decide_eq_true_eq];omega
     obtain ⟨s1,s2,s3,s4,g1,g2,g3,g4,⟨p0,p1,p2,p3⟩,⟨f0,f1,f2,f3⟩,hq,HZ⟩:=BAD.out
     have HQ:=zH hq
     clear hq hzi hzm BAD
     go_wp2_with fail
     refine bodyPost_ret (results_term2 rfl _ _ _ _ _ _ _ rfl HQ.out) rfl ?_
     exact HZ.out
    have hgm:decide (zi>1048576-(d:Int))=false:=by rw [decide_eq_false_iff_not];omega
    have hwz:IntKind.i64.wrap (zi+(d:Int))=zi+(d:Int):=IntWalk.i64_in _ (by omega)
    obtain ⟨s1,hs1⟩:∃s1,w3.setCell ⟨w2.heap.size,2,none⟩ (.int .i64 (zi+(d:Int)))=s1:=⟨_,rfl⟩
    have y2:=zC Q3.out 2
    have f2:=zF Q3.out 2
    have QS:Hid (s1.heap[w2.heap.size]?=some (.cells #[.int .i64 5,S nm,.int .i64 (zi+(d:Int)),.slice none 0 0] 51 (0,0))):=zH (by rw [←hs1];simp [World.setCell,Array.getElem?_modify,Q3.out])
    have OS:Hid (Oth w2.heap.size w3 s1):=zH (by rw [←hs1];exact Oth.set _ _)
    have hr1:0≤zi+(d:Int):=by omega
    have hr2:zi+(d:Int)≤1048576:=by omega
    clear hzi hzm BAD
    go_wp2_with fail
    go_meet
    exact ⟨_,hr1,hr2,zH (Lfc.headB_var HHD.out),QS,zH (HGO.out _ OS.out)⟩
   case false =>
    clear HBV
    go_wp2_with fail
    go_meet
    exact ⟨ps,hp0,hp1,HHD,Q3,B3⟩
  case rest =>
  obtain ⟨p',hp2,hp3,HHP,QO,BO⟩:=hcut
  have I0:Hid (RnI w2 w2.heap.size (w2.heap.size+1) kd nm p' (Lfc.Raw.sizes (ts.take 0)) [] none 0 [] wc):=zH (by rw [List.take_zero,Lfc.Raw.sizes];exact RnI.start QO.out BO.out)
  clear x0 x1 x2 x3 Q3 B3 QO BO HBV
  go_wp2_with fail
  go_loopw [10] (fun i wr=>∃ (k:Nat) (os:List Lfc.Raw) (A':Option Addr) (c':Nat) (xs:List Value),k≤ts.length∧i=.int .i64 (k:Int)∧os.length=k∧Hid (RnI w2 w2.heap.size (w2.heap.size+1) kd nm p' (Lfc.Raw.sizes (ts.take k)) os A' c' xs wr)) (fun i _=>ts.length-(intOf i).toNat)
  case atStart=>exact ⟨0,[],none,0,[],by omega,rfl,rfl,I0⟩
  obtain ⟨k,os,A',c',xs,hk,rfl,hol,HI⟩:=hrel
  clear I0
  have hb2r:=HI.out.below
  obtain ⟨x0,x1,x2,x3⟩:=cells4t ((hb2r.block _ hl02).trans Q1.out)
  have hle:=Lfc.Raw.sizes_len ts
  have hsr:=hb2r.size
  have HBR:=zH hb2r
  clear hb2r
  by_cases hlt:k<ts.length
  ·obtain ⟨b,o,k1,n1,p1,us,B1,c1,rfl,hb,ht,d0,d1,d2,d3,hcu,hB1,hT⟩:=(HA.out.below HBR.out).at_ hlt
   have hk0:(0:Int)≤(k:Int):=Int.natCast_nonneg _
   have hk1:(k:Int)<(ts.length:Int):=by omega
   have hmem:=Lfc.Raw.sizes_mem ts ts[k] (List.getElem_mem _)
   have hstk:Lfc.Raw.sizes (ts.take (k+1))=Lfc.Raw.sizes (ts.take k)+ts[k].size:=by rw [List.take_succ_eq_append_getElem hlt,Lfc.Raw.sizes_app];simp [Lfc.Raw.sizes]
   have HSTK:=zH hstk
   have hlw:w.heap.size<wr.heap.size:=by omega
   have SC:Hid (∀W,Below wr.heap.size wr W→(W.cell? ⟨w.heap.size,0,none⟩=some (.int .i64 kd)∧W.cell? ⟨w.heap.size,1,none⟩=some (S nm)∧W.cell? ⟨w.heap.size,2,none⟩=some (.int .i64 ps)∧W.cell? ⟨w.heap.size,3,none⟩=some (.slice (some ⟨b,o,none⟩) ts.length c))∧(W.cell? ⟨b,o+k*4,none⟩=some (.int .i64 k1)∧W.cell? ⟨b,o+k*4+1,none⟩=some (S n1)∧W.cell? ⟨b,o+k*4+2,none⟩=some (.int .i64 p1)∧W.cell? ⟨b,o+k*4+3,none⟩=some (.slice B1 us.length c1))):=zH (fun W hw=>⟨cells4t ((hw.block _ hlw).trans ((HBR.out.block _ hl02).trans Q1.out)),(hw.cell (p:=⟨b,o+k*4,none⟩) hb).trans d0,(hw.cell (p:=⟨b,o+k*4+1,none⟩) hb).trans d1,(hw.cell (p:=⟨b,o+k*4+2,none⟩) hb).trans d2,(hw.cell (p:=⟨b,o+k*4+3,none⟩) hb).trans d3⟩)
   have HT:=zH hT
   have CU:=zH (fun W=>sUnder_any kd ps (k:Int) nm (some ⟨b,o,none⟩) ts.length c W)
   have HPK:=zH (HPOS.out k hlt)
   have CR:=zH (fun W (hw:Below wr.heap.size wr W) (dd:Nat) (hd:dd≤d+1)=>IH.out ts[k] _ dd zs At ct W (by omega) HPK.out (by omega) hzl ((HZ2.out.below HBR.out).below hw) (HT.out.below hw))
   have G0:Below wr.heap.size wr wr.drew:=(zB _ _).drew
   have HOL:=zH hol
   clear hB1 ht hT d0 d1 d2 d3 hstk hmem hol hle
   go_upto_region 10 with fail
   clear x0 x1 x2 x3
   go_cut [11,12] (fun s11 s12 wx=>Hid (RnX wr ts[k].size s11 s12 wx))
   case first =>
    refine wp_region_held_drew (S:=fun W=>(W.cell? ⟨w.heap.size,0,none⟩=some (.int .i64 kd)∧W.cell? ⟨w.heap.size,1,none⟩=some (S nm)∧W.cell? ⟨w.heap.size,2,none⟩=some (.int .i64 ps)∧W.cell? ⟨w.heap.size,3,none⟩=some (.slice (some ⟨b,o,none⟩) ts.length c))∧(W.cell? ⟨b,o+k*4,none⟩=some (.int .i64 k1)∧W.cell? ⟨b,o+k*4+1,none⟩=some (S n1)∧W.cell? ⟨b,o+k*4+2,none⟩=some (.int .i64 p1)∧W.cell? ⟨b,o+k*4+3,none⟩=some (.slice B1 us.length c1))) (by kernel_rfl) ?_ (fun hHeld=>?_)
    ·exact SC.out _ G0
    refine tk 0 ?_
    refine tk 1 ?_
    refine tk 2 ?_
    refine tk 3 ?_
    refine tk 4 ?_
    refine tk 5 ?_
    refine tk 6 ?_
    refine tk 7 ?_
    refine tk 8 ?_
    refine wpAnyH_ready (rs:=[9,15]) (by kernel_rfl) (by simp) ?_
    refine AllReadyH.cons rfl (fun K hK=>?_) ?_
    ·go_simp
     go_at_call 76
     refine (CU.out _).mono ?_
     rintro e w5 ⟨⟨r,hr,rfl⟩,b5'⟩
     have b5:=(G0).trans (b5'.mono (G0).size)
     have hdr:IntKind.i64.wrap ((d:Int)+(r:Int))=((d+r:Nat):Int):=by rw [IntWalk.i64_in _ (by omega)];omega
     refine hK.out _ _ (SC.out _ b5) (fun hHeld=>nrm ?_)
     clear hK K
     refine tk 10 ?_
     refine wpAnyH_ready (rs:=[11,15]) (by kernel_rfl) (by simp) ?_
     refine AllReadyH.cons rfl (fun K hK=>?_) ?_
     ·go_simp
      go_at_call 83
      refine (CR.out _ (b5) (d+r) (by omega)).mono ?_
      rintro e w6 ⟨⟨k9,n9,p9,ts9,A9,c9,b9,rfl,hv9,hz9,hq9⟩,b6'⟩
      have b6:=(b5).trans (b6'.mono (b5).size)
      refine hK.out _ _ (SC.out _ b6) (fun hHeld=>nrm ?_)
      clear hK K
      refine tk 12 ?_
      refine tk 13 ?_
      refine tk 14 ?_
      have bA:Below wr.heap.size wr (w6.alloc (.cells #[.int .i64 0,S [],.int .i64 0,.slice none 0 0] 51)):=b6.alloc b6.size _
      have bN:Below wr.heap.size wr (w6.alloc (.cells #[.int .i64 k9,S n9,.int .i64 p9,.slice A9 ts9.length c9] 51)):=b6.alloc b6.size _
      refine wpAnyH_ready (rs:=[15]) (by kernel_rfl) (by simp) ?_
      refine AllReadyH.cons rfl (fun K hK=>?_) ?_
      ·go_simp
       refine hK.out _ _ (SC.out _ bA) (fun hHeld=>nrm ?_)
       clear hK K
       have HR:Hid (RnX wr ts[k].size (.pointer (some ⟨w6.heap.size,0,none⟩)) (.bool b9) (w6.alloc (.cells #[.int .i64 k9,S n9,.int .i64 p9,.slice A9 ts9.length c9] 51))):=zH ⟨w6.heap.size,k9,n9,p9,ts9,A9,c9,b9,rfl,rfl,b6.size,zW _ _,hv9.keep (fun j _ hlt=>zA _ _ _ hlt) (by simp) (fun j _ hj=>Nat.le_trans b5.size hj),hz9,hq9,bN⟩
       clear hv9
       refine wpAnyH_ready (rs:=[16]) (by kernel_rfl) (by simp) ?_
       refine AllReadyH.cons rfl (fun K hK=>?_) ?_
       ·go_simp
        refine hK.out _ _ (SC.out _ bN) (fun hHeld=>nrm ?_)
        clear hK K
        refine tk 17 ?_
        refine wpAnyH_done (by kernel_rfl) ?_ _
        go_wp2_with fail
        go_meet
        exact HR
       exact AllReadyH.nil
      exact AllReadyH.nil
     refine AllReadyH.cons rfl (fun K hK=>?_) ?_
     ·have bA:Below wr.heap.size wr (w5.alloc (.cells #[.int .i64 0,S [],.int .i64 0,.slice none 0 0] 51)):=b5.alloc b5.size _
      have hsA:(w5.alloc (.cells #[.int .i64 0,S [],.int .i64 0,.slice none 0 0] 51)).heap.size=w5.heap.size+1:=by simp
      have hgs:wr.heap.size≤w5.heap.size:=b5.size
      go_simp
      refine hK.out _ _ (SC.out _ bA) (fun hHeld=>nrm ?_)
      clear hK K
      refine wpAnyH_ready (rs:=[11]) (by kernel_rfl) (by simp) ?_
      refine AllReadyH.cons rfl (fun K hK=>?_) ?_
      ·go_simp
       go_at_call 83
       refine (CR.out _ (bA) (d+r) (by omega)).mono ?_
       rintro e w6 ⟨⟨k9,n9,p9,ts9,A9,c9,b9,rfl,hv9,hz9,hq9⟩,b6'⟩
       have b6:=(bA).trans (b6'.mono (bA).size)
       refine hK.out _ _ (SC.out _ b6) (fun hHeld=>nrm ?_)
       clear hK K
       have hjs:∀j,(w5.alloc (.cells #[.int .i64 0,S [],.int .i64 0,.slice none 0 0] 51)).heap.size≤j→w5.heap.size<j∧wr.heap.size≤j:=fun j hj=>by rw [hsA] at hj;omega
       refine tk 12 ?_
       refine tk 13 ?_
       refine tk 14 ?_
       obtain ⟨s1,s2,s3,s4,g1,g2,g3,g4,⟨y0,y1,y2,y3⟩,⟨f0,f1,f2,f3⟩,hq,hot⟩:=tput4 ((b6'.block _ (by rw [hsA];omega)).trans (zW w5 _)) (.int .i64 k9) (S n9) (.int .i64 p9) (.slice A9 ts9.length c9)
       have BS:=zH (Oth.below b6 hot hgs b6.size)
       have HR:Hid (RnX wr ts[k].size (.pointer (some ⟨w5.heap.size,0,none⟩)) (.bool b9) s4):=zH ⟨w5.heap.size,k9,n9,p9,ts9,A9,c9,b9,rfl,rfl,hgs,hq,hv9.keep (fun j hj hlt=>hot.block j hlt (fun e=>by have e:=zO e;have hj:=hjs j hj;omega)) hot.size (fun j _ hj=>by have hj:=hjs j hj;omega),hz9,hq9,BS.out⟩
       clear hq hot hv9
       refine wpAnyH_ready (rs:=[16]) (by kernel_rfl) (by simp) ?_
       refine AllReadyH.cons rfl (fun K hK=>?_) ?_
       ·go_simp
        refine hK.out _ _ (SC.out _ BS.out) (fun hHeld=>nrm ?_)
        clear hK K
        refine tk 17 ?_
        refine wpAnyH_done (by kernel_rfl) ?_ _
        go_wp2_with fail
        go_meet
        exact HR
       exact AllReadyH.nil
      exact AllReadyH.nil
     exact AllReadyH.nil
    refine AllReadyH.cons rfl (fun K hK=>?_) ?_
    ·have bA:Below wr.heap.size wr (wr.drew.alloc (.cells #[.int .i64 0,S [],.int .i64 0,.slice none 0 0] 51)):=G0.alloc G0.size _
     have hsA:(wr.drew.alloc (.cells #[.int .i64 0,S [],.int .i64 0,.slice none 0 0] 51)).heap.size=wr.heap.size+1:=by simp
     have hgs:wr.heap.size≤wr.heap.size:=zN _
     go_simp
     refine hK.out _ _ (SC.out _ bA) (fun hHeld=>nrm ?_)
     clear hK K
     refine wpAnyH_ready (rs:=[9]) (by kernel_rfl) (by simp) ?_
     refine AllReadyH.cons rfl (fun K hK=>?_) ?_
     ·go_simp
      go_at_call 76
      refine (CU.out _).mono ?_
      rintro e w5 ⟨⟨r,hr,rfl⟩,b5'⟩
      have b5:=(bA).trans (b5'.mono (bA).size)
      have hdr:IntKind.i64.wrap ((d:Int)+(r:Int))=((d+r:Nat):Int):=by rw [IntWalk.i64_in _ (by omega)];omega
      refine hK.out _ _ (SC.out _ b5) (fun hHeld=>nrm ?_)
      clear hK K
      refine tk 10 ?_
      refine wpAnyH_ready (rs:=[11]) (by kernel_rfl) (by simp) ?_
      refine AllReadyH.cons rfl (fun K hK=>?_) ?_
      ·go_simp
       go_at_call 83
       refine (CR.out _ (b5) (d+r) (by omega)).mono ?_
       rintro e w6 ⟨⟨k9,n9,p9,ts9,A9,c9,b9,rfl,hv9,hz9,hq9⟩,b6'⟩
       have b6:=(b5).trans (b6'.mono (b5).size)
       refine hK.out _ _ (SC.out _ b6) (fun hHeld=>nrm ?_)
       clear hK K
       have hs5:=b5'.size
       simp at hs5
       have hjs:∀j,w5.heap.size≤j→wr.heap.size<j∧wr.heap.size≤j:=fun j hj=>by omega
       refine tk 12 ?_
       refine tk 13 ?_
       refine tk 14 ?_
       obtain ⟨s1,s2,s3,s4,g1,g2,g3,g4,⟨y0,y1,y2,y3⟩,⟨f0,f1,f2,f3⟩,hq,hot⟩:=tput4 ((b6'.block _ (by omega)).trans ((b5'.block wr.heap.size (by simp)).trans (zW wr _))) (.int .i64 k9) (S n9) (.int .i64 p9) (.slice A9 ts9.length c9)
       have BS:=zH (Oth.below b6 hot hgs b6.size)
       have HR:Hid (RnX wr ts[k].size (.pointer (some ⟨wr.heap.size,0,none⟩)) (.bool b9) s4):=zH ⟨wr.heap.size,k9,n9,p9,ts9,A9,c9,b9,rfl,rfl,hgs,hq,hv9.keep (fun j hj hlt=>hot.block j hlt (fun e=>by have e:=zO e;have hj:=hjs j hj;omega)) hot.size (fun j _ hj=>by have hj:=hjs j hj;omega),hz9,hq9,BS.out⟩
       clear hq hot hv9
       refine wpAnyH_ready (rs:=[16]) (by kernel_rfl) (by simp) ?_
       refine AllReadyH.cons rfl (fun K hK=>?_) ?_
       ·go_simp
        refine hK.out _ _ (SC.out _ BS.out) (fun hHeld=>nrm ?_)
        clear hK K
        refine tk 17 ?_
        refine wpAnyH_done (by kernel_rfl) ?_ _
        go_wp2_with fail
        go_meet
        exact HR
       exact AllReadyH.nil
      exact AllReadyH.nil
     exact AllReadyH.nil
    exact AllReadyH.nil
   obtain ⟨g,k9,n9,p9,ts9,A9,c9,b9,rfl,rfl,hgr,hqg,hv9,hz9,hq9,bx⟩:=hcut.out
   clear hcut CU CR G0
   have hlw2:w.heap.size<wc.heap.size:=Nat.lt_of_lt_of_le hlw bx.size
   have hxr:=bx.size
   obtain ⟨u0,u1,u2,u3⟩:=cells4t hqg
   cases b9
   case false =>
    have hb2:Below w.heap.size w wc:=B12.out.trans ((HBR.out.mono (by omega)).trans (bx.mono (by omega)))
    obtain ⟨s1,s2,s3,s4,g1,g2,g3,g4,⟨y0,y1,y2,y3⟩,⟨f0,f1,f2,f3⟩,hq,HZ⟩:=ren_zero (w:=w) (w2:=w2) (n:=Lfc.Raw.sizes ts+1) (show w.heap.size≤w1.heap.size by omega) hb2 ((bx.block _ (by omega)).trans ((HBR.out.block _ (by omega)).trans Q2.out)) (by omega)
    have HQ:=zH hq
    clear hq hb2 hqg hv9 bx u0 u1 u2 u3 HI
    go_wp2_with fail
    refine bodyPost_ret (results_term2 rfl _ _ _ _ _ _ _ rfl HQ.out) rfl ?_
    exact HZ.out
   case true =>
    obtain ⟨lo,hlo⟩:∃lo,os.length=lo:=⟨_,rfl⟩
    have HLK:Hid (lo=k):=zH (by rw [←hlo];exact HOL.out)
    have HR:=zH ((bx.block _ (by have:=HI.out.size;omega)).trans HI.out.r)
    have HOWN:=zH HI.out.own
    have hlob:lo≤1000000:=by have:=HLK.out;omega
    have hlm:lo+1≤maxLen:=by unfold maxLen;omega
    have hl56:(lo+1)*56≤140737488355328:=by omega
    have HOW2:Hid (wc.ownsRow (w2.heap.size+1) 51 4 (.slice A' lo c') lo xs):=zH (by rw [←hlo];exact HI.out.own.kept (Oth.of_below bx:Oth 0 wr wc) (Or.inr (fun e=>by have:=(HI.out.own.lt _ e).1;omega)))
    have HV9:=zH hv9
    have HX:=zH (And.intro hz9 (hq9 rfl))
    have BX:=zH bx
    have hrs:=HI.out.size
    have yx:wc.cell? ⟨w2.heap.size,3,none⟩=some (.slice A' lo c'):=by rw [←hlo];exact zC HR.out 3
    have HLO:=zH hlo
    have hbz:w2.heap.size+1≤wc.heap.size:=by omega
    have h0R:0<w2.heap.size:=by omega
    clear hqg hv9 hz9 hq9 bx SC HT HPK hlo
    go_wp2_with (at_builtin;refine wpList_append_own_at _ rfl _ _ 27 rfl (w2.heap.size+1) 51 i0 (.agg #[.int .i64 0,S [],.int .i64 0,.slice none 0 0]) 4 56 Tryz.underlying27 hi hz0 hz1 hz2 rfl (by decide) _ _ _ rfl (HOW2.out.alloc _) ⟨wc.heap.size,0,none⟩ 1 1 [.int .i64 k9,S n9,.int .i64 p9,.slice A9 ts9.length c9] rfl rfl (fun jj v hj=>ocells_new wc _ rfl [.int .i64 k9,S n9,.int .i64 p9,.slice A9 ts9.length c9] 51 jj v hj) oneCellT hlm hl56 (oalloc_le hbz) ?_)
    intro v' w10 hown10 hg10 _ hloc10
    obtain ⟨A10,c10,rfl⟩:=oform hown10
    obtain ⟨_,_,_,_,e9,hP9⟩:=HV9.out
    cases e9
    obtain ⟨hr10,hfin⟩:=HI.out.step (n':=Lfc.Raw.sizes (ts.take (k+1))) h0R (Nat.lt_succ_self _) (zN _) BX.out hP9 (by have h1:=HSTK.out;have h2:=HX.out.1;omega) HX.out.2 (by rw [HLO.out];exact hown10) (by rw [HLO.out];exact hg10) (by rw [HLO.out];exact hloc10)
    rw [HLO.out] at hr10 hfin
    have HN:=zH (hfin A10 c10 rfl)
    have HL:Hid ((os++[Lfc.Raw.node k9 n9 p9 ts9]).length=k+1):=zH (by rw [List.length_append,HLO.out,HLK.out];rfl)
    have y10:=(zC hr10 3:w10.cell? ⟨w2.heap.size,3,none⟩=some (.slice A' lo c'))
    have f10:=zF hr10 3
    clear hr10 hfin hown10 hg10 hloc10 hP9 HV9
    go_wp2_with fail
    go_roundw
    case rel=>exact ⟨k+1,os++[Lfc.Raw.node k9 n9 p9 ts9],A10,c10,_,by omega,by go_num,HL.out,HN⟩
    case measure=>simp [intOf];omega
  obtain rfl:k=ts.length:=by omega
  obtain ⟨u0,u1,u2,u3⟩:=cells4t HI.out.r
  have hpt:=trm_parts (lo:=w1.heap.size+1) (by omega) HI.out.own HI.out.row
  have hfe:=HI.out.few
  rw [List.take_length] at hfe
  obtain ⟨s1,s2,s3,s4,g1,g2,g3,g4,⟨y0,y1,y2,y3⟩,⟨f0,f1,f2,f3⟩,hq,HZ⟩:=ren_ret (w:=w) (w2:=w2) (k:=kd) (p:=p') (nm:=nm) (n:=Lfc.Raw.sizes ts+1) true (show w.heap.size≤w1.heap.size by omega) (B12.out.trans (HBR.out.mono (by omega))) ((HBR.out.block _ (by omega)).trans Q2.out) hnl hpt (by omega) (fun _=>by rw [Lfc.Raw.posB,HI.out.pos,hol,HHP.out];simp;omega)
  have HQ:=zH hq
  clear hq hpt hfe HI hol
  go_wp2_with fail
  refine bodyPost_ret (results_term2 rfl _ _ _ _ _ _ _ rfl HQ.out) rfl ?_
  exact HZ.out
end Go.Proofs.YtadjpadieljjlaaGreat
namespace Go.Proofs.YtadjpadieljjlaaGreat
open Go.RowKit
theorem s_sizes_take (ts:List Lfc.Raw) (k:Nat) (h:k<ts.length):Lfc.Raw.sizes (ts.take (k+1))=Lfc.Raw.sizes (ts.take k)+ts[k].size:=by
 rw [List.take_succ_eq_append_getElem h,Lfc.Raw.sizes_app];simp [Lfc.Raw.sizes]
theorem s_depths_take (ts:List Lfc.Raw) (k:Nat) (h:k<ts.length):Lfc.Raw.depths (ts.take (k+1))=max (Lfc.Raw.depths (ts.take k)) ts[k].depth:=by
 rw [List.take_succ_eq_append_getElem h,Lfc.Raw.depths_app];simp [Lfc.Raw.depths]
theorem s_sizes_take_le (ts:List Lfc.Raw) (k:Nat):Lfc.Raw.sizes (ts.take k)≤Lfc.Raw.sizes ts:=by
 have:Lfc.Raw.sizes ts=Lfc.Raw.sizes (ts.take k)+Lfc.Raw.sizes (ts.drop k):=by rw [←Lfc.Raw.sizes_app,List.take_append_drop]
 omega
theorem s_depths_le (l:List Lfc.Raw):Lfc.Raw.depths l≤Lfc.Raw.sizes l:=by
 induction l with
 | nil=>simp [Lfc.Raw.depths,Lfc.Raw.sizes]
 | cons a r ih=>have:=Lfc.Raw.depth_le_size _ a (zN _);simp only [Lfc.Raw.depths,Lfc.Raw.sizes];omega
theorem sSize_any (m:Nat):∀ (t:Lfc.Raw) (v:Value) (w:World),t.size≤m→t.size≤1000000000→TreeV w t v →
  Calls Tryz.prog 21 #[v] w fun e w'=>e=.returned (.int .i64 (t.size:Int))∧Below w.heap.size w w':=by
 induction m with
 | zero=>intro t v w h _ _;have:=t.size_pos;omega
 | succ m ih =>
  intro t v w hm hmax hv
  obtain ⟨kd,nm,ps,ts⟩:=t
  obtain ⟨A,c,rfl,hc,hA⟩:=hv.open_
  simp only [Lfc.Raw.size] at hm hmax
  simp only [Lfc.Raw.size]
  have hlen:=Lfc.Raw.sizes_len ts
  have IH:=zH ih
  obtain ⟨w0,hw0⟩:∃w0,w.alloc (.cells #[.int .i64 kd,S nm,.int .i64 ps,.slice A ts.length c] 51)=w0:=⟨_,rfl⟩
  have b0:=zG hw0
  have s0:w.heap.size<w0.heap.size:=by rw [←hw0];simp
  have hbox:w0.cell? ⟨w.heap.size,3,none⟩=some (.slice A ts.length c):=by rw [←hw0];simp [World.cell?_alloc_new]
  have HA:=zH (hA.below b0)
  have HB:=zH hbox
  clear ih hA hv hbox
  go_enter Tryz.func21,Tryz.ntmps21
  go_wp2_with fail
  generalize hG:w.heap.size=G at *
  go_loopw [3,4] (fun n i wr=>∃k:Nat,k≤ts.length∧i=.int .i64 k∧n=.int .i64 ((Lfc.Raw.sizes (ts.take k)+1:Nat):Int)∧Below w0.heap.size w0 wr) (fun _ i _=>ts.length-(intOf i).toNat)
  case atStart=>exact ⟨0,by omega,rfl,by simp [Lfc.Raw.sizes],by first | exact zB _ _ | (rw [hw0];exact zB _ _)⟩
  have HGG:=zH hG
  clear hw0 hG
  obtain ⟨k,hk,rfl,rfl,hbw⟩:=hrel
  have hbx:wr.cell? ⟨G,3,none⟩=some (.slice A ts.length c):=(hbw.cell (p:=⟨G,3,none⟩) s0).trans HB.out
  have hle3:=s_sizes_take_le ts k
  by_cases hlt:k<ts.length
  ·obtain ⟨b,o,k1,n1,p1,us,B,c1,rfl,hb,ht,c0',c1',c2',c3',hcu,hB,hT⟩:=(HA.out.below hbw).at_ hlt
   have hst:=s_sizes_take ts k hlt
   have hle2:=s_sizes_take_le ts (k+1)
   have hmem:=Lfc.Raw.sizes_mem ts ts[k] (List.getElem_mem _)
   have HS:=zH hst
   clear hB ht
   generalize hZ:ts[k].size=z at *
   generalize hY:Lfc.Raw.sizes (ts.take k)=y at *
   have HZ:=zH hZ
   clear hZ hst hY
   go_wp2_with fail
   refine (IH.out ts[k] _ _ (by rw [HZ.out];omega) (by rw [HZ.out];omega) hT).mono ?_
   rintro e w1 ⟨rfl,hb1⟩
   rw [HZ.out]
   have hyz:y+z≤Lfc.Raw.sizes ts:=by have:=HS.out;omega
   go_wp2_with fail
   go_roundw
   case rel=>exact ⟨k+1,by omega,by go_num,by rw [HS.out];go_num,hbw.trans (hb1.mono hbw.size)⟩
   case measure=>simp [intOf];omega
  have hkl:k=ts.length:=by omega
  go_wp2_with fail
  go_ret
  exact ⟨ret_int (by rw [hkl,List.take_length]),by rw [HGG.out];exact b0.trans (hbw.mono (Nat.le_of_lt s0))⟩
theorem sDepth_any (m:Nat):∀ (t:Lfc.Raw) (v:Value) (w:World),t.size≤m→t.size≤1000000000→TreeV w t v →
  Calls Tryz.prog 42 #[v] w fun e w'=>e=.returned (.int .i64 (t.depth:Int))∧Below w.heap.size w w':=by
 induction m with
 | zero=>intro t v w h _ _;have:=t.size_pos;omega
 | succ m ih =>
  intro t v w hm hmax hv
  obtain ⟨kd,nm,ps,ts⟩:=t
  obtain ⟨A,c,rfl,hc,hA⟩:=hv.open_
  simp only [Lfc.Raw.size] at hm hmax
  simp only [Lfc.Raw.depth]
  have hlen:=Lfc.Raw.sizes_len ts
  have IH:=zH ih
  obtain ⟨w0,hw0⟩:∃w0,w.alloc (.cells #[.int .i64 kd,S nm,.int .i64 ps,.slice A ts.length c] 51)=w0:=⟨_,rfl⟩
  have b0:=zG hw0
  have s0:w.heap.size<w0.heap.size:=by rw [←hw0];simp
  have hbox:w0.cell? ⟨w.heap.size,3,none⟩=some (.slice A ts.length c):=by rw [←hw0];simp [World.cell?_alloc_new]
  have HA:=zH (hA.below b0)
  have HB:=zH hbox
  clear ih hA hv hbox
  go_enter Tryz.func42,Tryz.ntmps42
  go_wp2_with fail
  generalize hG:w.heap.size=G at *
  go_loopw [3,4] (fun n i wr=>∃k:Nat,k≤ts.length∧i=.int .i64 k∧n=.int .i64 ((Lfc.Raw.depths (ts.take k):Nat):Int)∧Below w0.heap.size w0 wr) (fun _ i _=>ts.length-(intOf i).toNat)
  case atStart=>exact ⟨0,by omega,rfl,by simp [Lfc.Raw.depths],by first | exact zB _ _ | (rw [hw0];exact zB _ _)⟩
  have HGG:=zH hG
  clear hw0 hG
  obtain ⟨k,hk,rfl,rfl,hbw⟩:=hrel
  have hbx:wr.cell? ⟨G,3,none⟩=some (.slice A ts.length c):=(hbw.cell (p:=⟨G,3,none⟩) s0).trans HB.out
  have hle3:=s_sizes_take_le ts k
  have hle:=s_depths_le (ts.take k)
  by_cases hlt:k<ts.length
  ·obtain ⟨b,o,k1,n1,p1,us,B,c1,rfl,hb,ht,c0',c1',c2',c3',hcu,hB,hT⟩:=(HA.out.below hbw).at_ hlt
   have hst:=s_depths_take ts k hlt
   have hle2:=s_sizes_take_le ts (k+1)
   have hmem:=Lfc.Raw.sizes_mem ts ts[k] (List.getElem_mem _)
   have hdz:=Lfc.Raw.depth_le_size _ ts[k] (zN _)
   have HS:=zH hst
   clear hB ht
   generalize hZ:ts[k].depth=z at *
   generalize hY:Lfc.Raw.depths (ts.take k)=y at *
   have HZ:=zH hZ
   clear hZ hst hY
   go_wp2_with fail
   refine (IH.out ts[k] _ _ (by omega) (by omega) hT).mono ?_
   rintro e w1 ⟨rfl,hb1⟩
   rw [HZ.out]
   go_wp2_with fail
   go_roundw
   case rel=>exact ⟨k+1,by omega,by go_num,by rw [HS.out];congr 1;omega,hbw.trans (hb1.mono hbw.size)⟩
   case measure=>simp [intOf];omega
  have hkl:k=ts.length:=by omega
  have hd:=s_depths_le ts
  go_wp2_with fail
  go_ret
  exact ⟨ret_int (by omega),by rw [HGG.out];exact b0.trans (hbw.mono (Nat.le_of_lt s0))⟩
end Go.Proofs.YtadjpadieljjlaaGreat
namespace Go.Proofs.YtadjpadieljjlaaGreat
open Go.RowKit
def SortsPost (w:World) (e:Ending) (w':World):Prop:=(∃r:Nat,r<8∧e=.returned (.int .i64 (r:Int)))∧Below w.heap.size w w'
theorem sorts_ret {w w':World} {r:Nat} (h:r<8) (hb:Below w.heap.size w w'):SortsPost w (.returned (.int .i64 (r:Int))) w':=⟨⟨r,h,rfl⟩,hb⟩
theorem and_lt {r:Nat} (h:r<8) (m:Int) (hm:m=1∨m=2∨m=6):∃s:Nat,s<8∧bits BinOp.and IntKind.i64 (r:Int) m=(s:Int):=by
 rcases (show r=0∨r=1∨r=2∨r=3∨r=4∨r=5∨r=6∨r=7 by omega) with rfl | rfl | rfl | rfl | rfl | rfl | rfl | rfl <;> rcases hm with rfl | rfl | rfl
 all_goals first | exact ⟨0,by omega,by decide⟩ | exact ⟨1,by omega,by decide⟩ | exact ⟨2,by omega,by decide⟩ | exact ⟨4,by omega,by decide⟩ | exact ⟨6,by omega,by decide⟩
theorem sSorts_upto (m:Nat) (hmm:m≤1000000):∀ (t:Lfc.Raw) (v:Value) (w:World),t.size≤m→TreeV w t v →
  Calls Tryz.prog 74 #[v] w (SortsPost w):=by
 induction m with
 | zero=>intro t v w h _;have:=t.size_pos;omega
 | succ m ih0 =>
  intro t v w hm hv
  obtain ⟨kd,nm,ps,ts⟩:=t
  have hnl:=hv.name_le
  obtain ⟨A,c,rfl,hc,hA⟩:=hv.open_
  simp only [Lfc.Raw.size] at hm
  have hlen:=Lfc.Raw.sizes_len ts
  have IH:=zH (ih0 (by omega))
  obtain ⟨w0,hw0⟩:∃w0,w.alloc (.cells #[.int .i64 kd,S nm,.int .i64 ps,.slice A ts.length c] 51)=w0:=⟨_,rfl⟩
  have b0:=zG hw0
  have q0:=zQ hw0
  have s0:=zL q0
  obtain ⟨x0,x1,x2,x3⟩:=cells4t q0
  have HA:=zH (hA.below b0)
  have B0:=zH b0
  have Q0:=zH q0
  have CN:=zH (fun W=>rIsName_any nm W (by omega))
  clear ih0 hA hv b0 q0
  go_enter Tryz.func74,Tryz.ntmps74
  go_upto_block 0 with fail
  clear hw0
  go_cut [0,3,4,5] (fun s0 s3 s4 s5 wx=>∃b3 b4 b5:Bool,s3=.bool b3∧s4=.bool b4∧s5=.bool b5∧Below w0.heap.size w0 wx∧Hid (b5=true→kd=2→ts.length=2)∧Hid (b5=true→kd=3→ts.length=1))
  case first =>
   have CN:=CN.out
   generalize Lfc.isName nm=q at *
   have CN:=zH CN
   by_cases k2:kd=2
   ·subst k2
    obtain ⟨b0_,hb0_⟩:∃b,(nm == [])=b:=⟨_,rfl⟩
    obtain ⟨b1_,hb1_⟩:∃b,(nm == [95])=b:=⟨_,rfl⟩
    by_cases hl:ts.length=2
    ·have HL:=zH hl
     have g2:((ts.length:Int) == 2)=true:=by simp;omega
     skip
     clear hl
     go_wp2_with (go_at_call 104;refine (CN.out _).mono ?_;rintro e w1 ⟨rfl,rfl⟩)
     all_goals go_meet
     all_goals exact ⟨_,_,_,rfl,rfl,rfl,zB _ _,zH (fun _ _=>HL.out),zH (fun _ e=>by cases e)⟩
    have g2:((ts.length:Int) == 2)=false:=by simp;omega
    clear hl
    obtain ⟨l1,hl1⟩:∃l1,((ts.length:Int) == 1)=l1:=⟨_,rfl⟩
    go_wp2_with (go_at_call 104;refine (CN.out _).mono ?_;rintro e w1 ⟨rfl,rfl⟩)
    all_goals go_meet
    all_goals exact ⟨_,_,_,rfl,rfl,rfl,zB _ _,zH (fun e _=>absurd e (by decide)),zH (fun _ e=>by cases e)⟩
   by_cases k3:kd=3
   ·subst k3
    obtain ⟨b0_,hb0_⟩:∃b,(nm == [])=b:=⟨_,rfl⟩
    obtain ⟨b1_,hb1_⟩:∃b,(nm == [95])=b:=⟨_,rfl⟩
    by_cases hl:ts.length=1
    ·have HL:=zH hl
     have g2:((ts.length:Int) == 1)=true:=by simp;omega
     have g3:((ts.length:Int) == 2)=false:=by simp;omega
     clear hl
     go_wp2_with (go_at_call 104;refine (CN.out _).mono ?_;rintro e w1 ⟨rfl,rfl⟩)
     all_goals go_meet
     all_goals exact ⟨_,_,_,rfl,rfl,rfl,zB _ _,zH (fun _ e=>by cases e),zH (fun _ _=>HL.out)⟩
    have g2:((ts.length:Int) == 1)=false:=by simp;omega
    clear hl
    obtain ⟨l1,hl1⟩:∃l1,((ts.length:Int) == 2)=l1:=⟨_,rfl⟩
    go_wp2_with (go_at_call 104;refine (CN.out _).mono ?_;rintro e w1 ⟨rfl,rfl⟩)
    all_goals go_meet
    all_goals exact ⟨_,_,_,rfl,rfl,rfl,zB _ _,zH (fun _ e=>by cases e),zH (fun e _=>absurd e (by decide))⟩
   have g2:(kd == 2)=false:=by simpa using k2
   have g3:(kd == 3)=false:=by simpa using k3
   have HK2:=zH k2
   have HK3:=zH k3
   clear k2 k3
   by_cases k4:kd=4
   ·subst k4
    go_wp2_with (go_at_call 104;refine (CN.out _).mono ?_;rintro e w1 ⟨rfl,rfl⟩)
    all_goals go_meet
    all_goals exact ⟨_,_,_,rfl,rfl,rfl,zB _ _,zH (fun _ e=>absurd e HK2.out),zH (fun _ e=>absurd e HK3.out)⟩
   have g4:(kd == 4)=false:=by simpa using k4
   clear k4
   by_cases k5:kd=5
   ·subst k5
    go_wp2_with fail
    all_goals go_meet
    all_goals exact ⟨_,_,_,rfl,rfl,rfl,zB _ _,zH (fun _ e=>absurd e HK2.out),zH (fun _ e=>absurd e HK3.out)⟩
   have g5:(kd == 5)=false:=by simpa using k5
   clear k5
   by_cases k6:kd=6
   ·subst k6
    go_wp2_with fail
    all_goals go_meet
    all_goals exact ⟨_,_,_,rfl,rfl,rfl,zB _ _,zH (fun _ e=>absurd e HK2.out),zH (fun _ e=>absurd e HK3.out)⟩
   have g6:(kd == 6)=false:=by simpa using k6
   clear k6
   go_wp2_with fail
   all_goals go_meet
   all_goals exact ⟨_,_,_,rfl,rfl,rfl,zB _ _,zH (fun _ e=>absurd e HK2.out),zH (fun _ e=>absurd e HK3.out)⟩
  obtain ⟨b3,b4,b5,rfl,rfl,rfl,bw,H2,H3⟩:=hcut
  have BW:=zH (B0.out.trans (bw.mono B0.out.size))
  obtain ⟨x0,x1,x2,x3⟩:=cells4t ((bw.block _ s0).trans Q0.out)
  have HA:=zH (HA.out.below bw)
  have QW:=zH ((bw.block _ s0).trans Q0.out)
  have sw:w.heap.size<wc.heap.size:=zL QW.out
  clear bw
  by_cases hall:b3=true∧b4=true∧b5=true
  ·obtain ⟨rfl,rfl,rfl⟩:=hall
   have H2:=H2.out rfl
   have H3:=H3.out rfl
   by_cases k1:kd=1
   ·subst k1
    clear H2 H3
    go_wp2_with fail
    go_ret
    exact sorts_ret (r:=4) (by omega) BW.out
   have g1:(kd == 1)=false:=by simpa using k1
   clear k1
   by_cases k2:kd=2
   ·subst k2
    have hl2:=H2 rfl
    clear H2 H3
    have hm0:=Lfc.Raw.sizes_mem ts ts[0] (List.getElem_mem _)
    have hm1:=Lfc.Raw.sizes_mem ts ts[1] (List.getElem_mem _)
    obtain ⟨b,o,k1,n1,p1,us,B,c1,rfl,hb,ht,d0,d1,d2,d3,hcu,hB,hT⟩:=HA.out.at_ (i:=0) (by omega)
    have hlz:(0:Int)<(ts.length:Int):=by omega
    simp only [Nat.zero_mul,Nat.add_zero] at d0 d1 d2 d3
    clear hB ht
    go_wp2_with fail
    refine (IH.out ts[0] _ _ (by omega) hT).mono ?_
    rintro e w1 ⟨⟨r,hr,rfl⟩,hb1⟩
    obtain ⟨r2,hr2,he⟩:=and_lt hr 2 (by omega)
    clear d0 d1 d2 d3 x0 x1 x2 x3
    have BW1:=zH (BW.out.trans (hb1.mono BW.out.size))
    obtain ⟨x0,x1,x2,x3⟩:=cells4t ((hb1.block _ sw).trans QW.out)
    by_cases hz:r2=0
    ·subst hz
     clear hb1
     go_wp2_with fail
     go_ret
     exact sorts_ret (r:=0) (by omega) BW1.out
    have hz2:((r2:Int) == 0)=false:=by simp;omega
    obtain ⟨b',o',k2,n2,p2,us2,B2,c2,hA2,hb',ht',d0,d1,d2,d3,hcu',hB',hT'⟩:=(HA.out.below hb1).at_ (i:=1) (by omega)
    cases hA2
    have hlo:(1:Int)<(ts.length:Int):=by omega
    simp only [Nat.one_mul] at d0 d1 d2 d3
    clear hB' ht' hb1
    go_wp2_with fail
    refine (IH.out ts[1] _ _ (by omega) hT').mono ?_
    rintro e w3 ⟨⟨r3,hr3,rfl⟩,hb3⟩
    obtain ⟨r4,hr4,he4⟩:=and_lt hr3 6 (by omega)
    go_wp2_with fail
    go_ret
    exact sorts_ret hr4 (BW1.out.trans (hb3.mono BW1.out.size))
   have g2:(kd == 2)=false:=by simpa using k2
   by_cases k3:kd=3
   ·subst k3
    have hl1:=H3 rfl
    clear H2 H3
    have hm0:=Lfc.Raw.sizes_mem ts ts[0] (List.getElem_mem _)
    obtain ⟨b,o,k1,n1,p1,us,B,c1,rfl,hb,ht,d0,d1,d2,d3,hcu,hB,hT⟩:=HA.out.at_ (i:=0) (by omega)
    have hlz:(0:Int)<(ts.length:Int):=by omega
    simp only [Nat.zero_mul,Nat.add_zero] at d0 d1 d2 d3
    clear hB ht
    go_wp2_with fail
    refine (IH.out ts[0] _ _ (by omega) hT).mono ?_
    rintro e w1 ⟨⟨r,hr,rfl⟩,hb1⟩
    obtain ⟨r2,hr2,he⟩:=and_lt hr 1 (by omega)
    go_wp2_with fail
    go_ret
    exact sorts_ret hr2 (BW.out.trans (hb1.mono BW.out.size))
   have g3:(kd == 3)=false:=by simpa using k3
   clear H2 H3 k2 k3
   by_cases k456:kd=4∨kd=5∨kd=6
   ·rcases k456 with rfl | rfl | rfl
    all_goals
     go_wp2_with fail
     go_loopw [6] (fun i wr=>∃k:Nat,k≤ts.length∧i=.int .i64 k∧Below wc.heap.size wc wr) (fun i _=>ts.length-(intOf i).toNat)
     case atStart=>exact ⟨0,by omega,rfl,zB _ _⟩
     obtain ⟨k,hk,rfl,hbw⟩:=hrel
     clear x0 x1 x2 x3
     obtain ⟨x0,x1,x2,x3⟩:=cells4t ((hbw.block _ sw).trans QW.out)
     have BR:=zH (BW.out.trans (hbw.mono BW.out.size))
     have hsr:=hbw.size
     by_cases hlt:k<ts.length
     ·have hm0:=Lfc.Raw.sizes_mem ts ts[k] (List.getElem_mem _)
      obtain ⟨b,o,k1,n1,p1,us,B,c1,rfl,hb,ht,d0,d1,d2,d3,hcu,hB,hT⟩:=(HA.out.below hbw).at_ hlt
      have HBW:=zH hbw
      clear hB ht hbw
      go_wp2_with fail
      refine (IH.out ts[k] _ _ (by omega) hT).mono ?_
      rintro e w1 ⟨⟨r,hr,rfl⟩,hb1⟩
      obtain ⟨r2,hr2,he⟩:=and_lt hr 1 (by omega)
      clear x0 x1 x2 x3 d0 d1 d2 d3
      by_cases hz:r2=0
      ·subst hz
       go_wp2_with fail
       go_ret
       exact sorts_ret (r:=0) (by omega) (BR.out.trans (hb1.mono BR.out.size))
      have hz2:((r2:Int) == 0)=false:=by simp;omega
      go_wp2_with fail
      go_roundw
      case rel=>exact ⟨k+1,by omega,by go_num,HBW.out.trans (hb1.mono hsr)⟩
      case measure=>simp [intOf];omega
     clear hbw
     go_wp2_with fail
     go_ret
     first | exact sorts_ret (r:=3) (by omega) BR.out | exact sorts_ret (r:=1) (by omega) BR.out
   have g4:(kd == 4)=false:=by simp;omega
   have g5:(kd == 5)=false:=by simp;omega
   have g6:(kd == 6)=false:=by simp;omega
   clear k456
   go_wp2_with fail
   go_ret
   exact sorts_ret (r:=0) (by omega) BW.out
  clear H2 H3
  have h3:b3=false∨(b3=true∧b4=false)∨(b3=true∧b4=true∧b5=false):=by
   cases b3
   ·exact .inl rfl
   cases b4
   ·exact .inr (.inl ⟨rfl,rfl⟩)
   cases b5
   ·exact .inr (.inr ⟨rfl,rfl,rfl⟩)
   exact absurd ⟨rfl,rfl,rfl⟩ hall
  clear hall
  rcases h3 with rfl | ⟨rfl,rfl⟩ | ⟨rfl,rfl,rfl⟩
  all_goals
   go_wp2_with fail
   go_ret
   exact sorts_ret (r:=0) (by omega) BW.out
theorem sSmall_any (t:Lfc.Raw) (v:Value) (w:World) (ht:t.size≤1000000) (hv:TreeV w t v) :
  Calls Tryz.prog 75 #[v] w fun e w'=>(∃b,e=.returned (.bool b))∧Below w.heap.size w w':=by
 have HV:=zH hv
 obtain ⟨kd,nm,ps,ts⟩:=t
 obtain ⟨A,c,rfl,hc,hA⟩:=hv.open_
 obtain ⟨w0,hw0⟩:∃w0,w.alloc (.cells #[.int .i64 kd,S nm,.int .i64 ps,.slice A ts.length c] 51)=w0:=⟨_,rfl⟩
 have b0:=zG hw0
 have q0:=zQ hw0
 have s0:=zL q0
 obtain ⟨x0,x1,x2,x3⟩:=cells4t q0
 have C1:=zH (fun W (hb:Below w0.heap.size w0 W)=>sSize_any _ _ _ W (zN _) (by omega) (HV.out.below (b0.trans (hb.mono b0.size))))
 have C2:=zH (fun W (hb:Below w0.heap.size w0 W)=>sDepth_any _ _ _ W (zN _) (by omega) (HV.out.below (b0.trans (hb.mono b0.size))))
 have B0:=zH b0
 have Q0:=zH q0
 generalize (Lfc.Raw.node kd nm ps ts).size=z at *
 generalize (Lfc.Raw.node kd nm ps ts).depth=y at *
 clear hv hA b0 q0 ht
 go_enter Tryz.func75,Tryz.ntmps75
 go_wp2_with fail
 refine (C1.out _ (zB _ _)).mono ?_
 rintro e w1 ⟨rfl,hb1⟩
 clear x0 x1 x2 x3 hw0
 obtain ⟨x0,x1,x2,x3⟩:=cells4t ((hb1.block _ s0).trans Q0.out)
 have HB1:=zH hb1
 by_cases hz:z≤4096
 ·have hz1:decide ((z:Int)≤4096)=true:=by simp;omega
  clear hz hb1
  go_wp2_with fail
  refine (C2.out _ HB1.out).mono ?_
  rintro e w2 ⟨rfl,hb2⟩
  obtain ⟨bb,hbb⟩:∃bb,decide ((y:Int)≤128)=bb:=⟨_,rfl⟩
  go_wp2_with fail
  go_ret
  exact ⟨⟨bb,rfl⟩,B0.out.trans ((HB1.out.trans (hb2.mono HB1.out.size)).mono B0.out.size)⟩
 have hz1:decide ((z:Int)≤4096)=false:=by simp;omega
 clear hz hb1
 go_wp2_with fail
 go_ret
 exact ⟨⟨false,rfl⟩,B0.out.trans (HB1.out.mono B0.out.size)⟩
theorem sWf_any (t:Lfc.Raw) (v:Value) (w:World) (ht:t.size≤1000000) (hv:TreeV w t v) :
  Calls Tryz.prog 47 #[v] w fun e w'=>(∃x:Int,e=.returned (.int .i64 x))∧Below w.heap.size w w':=by
 have HV:=zH hv
 obtain ⟨kd,nm,ps,ts⟩:=t
 obtain ⟨A,c,rfl,hc,hA⟩:=hv.open_
 obtain ⟨w0,hw0⟩:∃w0,w.alloc (.cells #[.int .i64 kd,S nm,.int .i64 ps,.slice A ts.length c] 51)=w0:=⟨_,rfl⟩
 have b0:=zG hw0
 have q0:=zQ hw0
 have s0:=zL q0
 obtain ⟨x0,x1,x2,x3⟩:=cells4t q0
 have C1:=zH (fun W (hb:Below w0.heap.size w0 W)=>sSorts_upto 1000000 (by omega) _ _ W ht (HV.out.below (b0.trans (hb.mono b0.size))))
 have C2:=zH (fun W (hb:Below w0.heap.size w0 W)=>sSmall_any _ _ W ht (HV.out.below (b0.trans (hb.mono b0.size))))
 have B0:=zH b0
 have Q0:=zH q0
 clear hv hA b0 q0 ht
 go_enter Tryz.func47,Tryz.ntmps47
 go_wp2_with fail
 refine (C1.out _ (zB _ _)).mono ?_
 rintro e w1 ⟨⟨r,hr,rfl⟩,hb1⟩
 clear x0 x1 x2 x3 hw0
 obtain ⟨x0,x1,x2,x3⟩:=cells4t ((hb1.block _ s0).trans Q0.out)
 have HB1:=zH hb1
 by_cases hz:r=0
 ·subst hz
  clear hb1
  go_wp2_with fail
  go_ret
  exact ⟨⟨1,rfl⟩,B0.out.trans (HB1.out.mono B0.out.size)⟩
 have hz1:((r:Int) == 0)=false:=by simp;omega
 clear hz hb1
 go_wp2_with fail
 refine (C2.out _ HB1.out).mono ?_
 rintro e w2 ⟨⟨b,rfl⟩,hb2⟩
 have HB2:=zH (B0.out.trans ((HB1.out.trans (hb2.mono HB1.out.size)).mono B0.out.size))
 clear hb2
 cases b
 all_goals
  go_wp2_with fail
  go_ret
  exact ⟨⟨_,rfl⟩,HB2.out⟩
end Go.Proofs.YtadjpadieljjlaaGreat
namespace Go.Proofs.YtadjpadieljjlaaGreat
open Go.RowKit Go.Maps
theorem sRename_any (t:Lfc.Raw) (v:Value) (zs:List Int) (At:Option Addr) (ct:Nat) (w:World) (ht:t.size≤100000) (hpo:t.posB 1048576=true) (hzl:zs.length≤1000000) (hzs:IntsO w At zs) (hv:TreeV w t v) :
  Calls Tryz.prog 53 #[v,.slice At zs.length ct] w (RenAns w t.size):=by
 have HV:=zH hv
 obtain ⟨kd,nm,ps,ts⟩:=t
 obtain ⟨A,c,rfl,hc,hA⟩:=hv.open_
 have hsz1:=(Lfc.Raw.node kd nm ps ts).size_pos
 obtain ⟨w1,hw1⟩:∃w1,w.alloc (.cells #[.int .i64 kd,S nm,.int .i64 ps,.slice A ts.length c] 51)=w1:=⟨_,rfl⟩
 obtain ⟨w2,hw2⟩:∃w2,w1.alloc (.cells #[.int .i64 0,S [],.int .i64 0,.slice none 0 0] 51)=w2:=⟨_,rfl⟩
 have b1:=zG hw1
 have b2:=zG hw2
 have q1:=zQ hw1
 have q2:=zQ hw2
 have l1:=zL q1
 have l2:=zL q2
 have b12:Below w.heap.size w w2:=b1.trans (b2.mono (by omega))
 have B12:=zH b12
 have Q1:=zH ((b2.block _ l1).trans q1)
 have Q2:=zH q2
 have C1:=zH (fun W (hb:Below w2.heap.size w2 W)=>sWf_any _ _ W (by omega) (HV.out.below (b12.trans (hb.mono (by omega)))))
 have C2:=zH (fun W (hb:Below w2.heap.size w2 W)=>sRen_upto 1000000 (by omega) _ _ 0 zs At ct W (by omega) hpo (by omega) hzl (hzs.below (b12.trans (hb.mono (by omega)))) (HV.out.below (b12.trans (hb.mono (by omega)))))
 obtain ⟨x0,x1,x2,x3⟩:=cells4t Q1.out
 obtain ⟨N,hN⟩:∃N,(Lfc.Raw.node kd nm ps ts).size=N:=⟨_,rfl⟩
 rw [hN] at C2 hsz1 ⊢
 clear hv hA b1 b2 q1 q2 b12 hzs hpo hN
 go_enter Tryz.func53,Tryz.ntmps53
 go_wp2_with fail
 refine (C1.out _ (zB _ _)).mono ?_
 rintro e w3 ⟨⟨x,rfl⟩,b3⟩
 clear x0 x1 x2 x3 hw1 hw2
 have B3:=zH b3
 by_cases hx:x=0
 ·subst hx
  obtain ⟨x0,x1,x2,x3⟩:=cells4t ((b3.block _ (by omega)).trans Q1.out)
  clear b3
  go_wp2_with fail
  refine (C2.out _ B3.out).mono ?_
  rintro e w4 ⟨⟨k9,n9,p9,ts9,A9,c9,b9,rfl,hv9,hz9,hq9⟩,b4⟩
  have b24:=B3.out.trans (b4.mono B3.out.size)
  have hs3:=B3.out.size
  have hn9:=hv9.toV.name_le
  have hc9:TreesAtP (fun b=>w3.heap.size≤b) w4 A9 ts9∧ts9.length≤c9:=by
   obtain ⟨v0,v1,v2,v3,e,hP⟩:=hv9
   cases e
   rw [TreeP] at hP
   obtain ⟨_,_,_,_,A',c',e,h1,h2⟩:=hP
   cases e
   exact ⟨h2,h1⟩
  obtain ⟨s1,s2,s3,s4,g1,g2,g3,g4,⟨y0,y1,y2,y3⟩,⟨f0,f1,f2,f3⟩,hq,HZ⟩:=ren_ret (w:=w) (w2:=w2) (k:=k9) (p:=p9) (nm:=n9) (n:=N) b9 (show w.heap.size≤w1.heap.size by omega) (B12.out.trans (b24.mono (by omega))) ((b24.block _ l2).trans Q2.out) hn9 ⟨hc9.1.keep (fun _ _ _=>rfl) (zN _) (fun b _ hb=>by have hb:w3.heap.size≤b:=hb;show w1.heap.size<b;omega),hc9.2⟩ (by rw [Lfc.Raw.size] at hz9;omega) hq9
  have HQ:=zH hq
  clear hq hv9 hc9 hz9 hq9 b4 b24 x0 x1 x2 x3
  go_wp2_with fail
  refine bodyPost_ret (results_term2 rfl _ _ _ _ _ _ _ rfl HQ.out) rfl ?_
  exact HZ.out
 have hx1:(x != 0)=true:=by simpa using hx
 have hx2:(x == 0)=false:=by simpa using hx
 obtain ⟨s1,s2,s3,s4,g1,g2,g3,g4,⟨y0,y1,y2,y3⟩,⟨f0,f1,f2,f3⟩,hq,HZ⟩:=ren_zero (w:=w) (w2:=w2) (n:=N) (show w.heap.size≤w1.heap.size by omega) (B12.out.trans (b3.mono (by omega))) ((b3.block _ l2).trans Q2.out) hsz1
 have HQ:=zH hq
 clear hq b3 hx
 go_wp2_with fail
 refine bodyPost_ret (results_term2 rfl _ _ _ _ _ _ _ rfl HQ.out) rfl ?_
 exact HZ.out
end Go.Proofs.YtadjpadieljjlaaGreat
namespace Go.Proofs.YtadjpadieljjlaaGreat
open Go.RowKit Go.Maps
attribute [local go_sem ↓] Go.wp_at_zero Go.wp_at_succ
structure KdI (w:World) (T:Nat) (ks:List Int) (v:Value) (wr:World):Prop where
 tape:TapeI T wr
 oth:Oth T w wr
 own:wr.ownsRow w.heap.size 3 1 v ks.length (ints ks)
theorem KdI.ne {w wr:World} {T:Nat} {ks:List Int} {v:Value} (h:KdI w T ks v wr) (hT:T<w.heap.size):v.ownBlock=some T→False:=fun e=>by have:=(h.own.lt _ e).1;omega
theorem KdI.moved {w wr w2:World} {T:Nat} {ks:List Int} {v:Value} (h:KdI w T ks v wr) (hT:T<w.heap.size) (ho:Oth T wr w2) (t2:TapeI T w2):KdI w T ks v w2:=⟨t2,h.oth.trans ho,h.own.kept ho (Or.inr (h.ne hT))⟩
theorem KdI.below {w wr w2:World} {T:Nat} {ks:List Int} {v:Value} (h:KdI w T ks v wr) (hT:T<w.heap.size) (hb:Below wr.heap.size wr w2):KdI w T ks v w2:=h.moved hT (Oth.of_below hb) (h.tape.below hb)
theorem KdI.step {w wr w9:World} {T:Nat} {ks:List Int} {v v':Value} {x:Int} {o:Obj} (h:KdI w T ks v wr) (hT:T<w.heap.size) (hg:(wr.alloc o).grownBy w9 v.ownBlock) (hown:w9.ownsRow w.heap.size 3 1 v' (ks.length+1) (ints ks++[.int .i64 x])):KdI w T (ks++[x]) v' w9:=by
 have hs:=h.oth.size
 have key:∀b,b<w.heap.size→w9.heap[b]?=(wr.alloc o).heap[b]?:=fun b hb=>hg.block b (by simp;omega) (fun e=>by have:=(h.own.lt b e.symm).1;omega)
 have ht:=h.tape.below ((zB wr.heap.size wr).alloc (zN _) o)
 have e1:ints (ks++[x])=ints ks++[.int .i64 x]:=by simp [ints]
 refine ⟨ht.like (fun b hb=>key b (by omega)),?_,by rw [e1,List.length_append];exact hown⟩
 exact (h.oth.of_new (((zB wr.heap.size wr).alloc (zN _) o).mono hs)).of_new ⟨hg.os,hg.tape,hg.output,hg.size,key⟩
def kdTab:List Int:=[0,2,5]
theorem kdTab_cell (w:World) (r:Nat) (hr:r<3):(w.alloc (.cells #[.int .i64 0,.int .i64 2,.int .i64 5] 3)).cell? ⟨w.heap.size,r,none⟩=some (.int .i64 (kdTab.getD r 0)):=by
 have q:=zW w (.cells #[.int .i64 0,.int .i64 2,.int .i64 5] 3)
 match r,hr with
 | 0,_=>exact zC q 0
 | 1,_=>exact zC q 1
 | 2,_=>exact zC q 2
def KindsAns (w:World) (T:Nat) (e:Ending) (w':World):Prop:=∃ks A c,e=.returned (.slice A ks.length c)∧ks.length≤5∧KdI w T ks (.slice A ks.length c) w'
theorem KdI.ints {w wr:World} {T:Nat} {ks:List Int} {A:Option Addr} {c:Nat} (h:KdI w T ks (.slice A ks.length c) wr):IntsP (fun b=>w.heap.size≤b) wr A ks:=intsP_own h.own
theorem mKinds_any (T:Nat) (w:World) (hT:TapeI T w) :
  Calls Tryz.prog 17 #[.pointer (some ⟨T,0,none⟩)] w (KindsAns w T):=by
 have hTl:=hT.lt
 obtain ⟨i0,hi,hz0,hz1,hz2⟩:=info_parts intInfo
 have I0:Hid (KdI w T [] (.slice none 0 0) w):=zH ⟨hT,Oth.refl _ _,⟨by simp [ints],.inl ⟨rfl,rfl⟩⟩⟩
 clear hT
 go_enter Tryz.func17,Tryz.ntmps17
 go_wp2_with fail
 refine (tapeI_next T 3 w (by omega) (by omega) I0.out.tape).mono ?_
 rintro e w1 ⟨⟨N,hN,rfl⟩,T1,o1⟩
 obtain ⟨ks0,A0,c0,hk0,I1⟩:∃ (ks0:List Int) (A0:Option Addr) (c0:Nat),(ks0=[]∧A0=none∧c0=0)∧Hid (KdI w T ks0 (.slice A0 ks0.length c0) w1):=⟨[],none,0,⟨rfl,rfl,rfl⟩,zH (I0.out.moved hTl o1 T1)⟩
 obtain ⟨rfl,rfl,rfl⟩:=hk0
 clear I0 T1 o1
 go_wp2_with fail
 go_loopw [3,4] (fun v i wr=>∃ (j:Nat) (ks:List Int) (A:Option Addr) (c:Nat),i=.int .i64 (j:Int)∧ks.length+j≤2∧v=.slice A ks.length c∧Hid (KdI w T ks (.slice A ks.length c) wr)) (fun _ i _=>(intOf i).toNat)
 case atStart=>exact ⟨N,[],none,0,rfl,by simp;omega,rfl,I1⟩
 obtain ⟨j,ks,A,c,rfl,hkj,rfl,HI⟩:=hrel
 clear I1
 by_cases hj:j=0
 ·subst hj
  go_wp2_with fail
  refine (tapeI_next T 3 _ (by omega) (by omega) HI.out.tape).mono ?_
  rintro e w1 ⟨⟨N,hN,rfl⟩,T1,o1⟩
  obtain ⟨ks0,A0,c0,hk0,I1⟩:∃ks0 A0 c0,(ks0.length≤2∧ks0=ks∧A0=A∧c0=c)∧Hid (KdI w T ks0 (.slice A0 ks0.length c0) w1):=⟨ks,A,c,⟨by omega,rfl,rfl,rfl⟩,zH (HI.out.moved hTl o1 T1)⟩
  obtain ⟨hk0,rfl,rfl,rfl⟩:=hk0
  clear HI T1 o1 hkj
  go_wp2_with fail
  go_loopw [3,5] (fun v i wr=>∃ (j:Nat) (ks:List Int) (A:Option Addr) (c:Nat),i=.int .i64 (j:Int)∧ks.length+j≤4∧v=.slice A ks.length c∧Hid (KdI w T ks (.slice A ks.length c) wr)) (fun _ i _=>(intOf i).toNat)
  case atStart=>exact ⟨N,_,_,_,rfl,by omega,rfl,I1⟩
  obtain ⟨j,ks,A,c,rfl,hkj,rfl,HI⟩:=hrel
  clear I1
  by_cases hj:j=0
  ·subst hj
   go_wp2_with fail
   refine (tapeI_next T 2 _ (by omega) (by omega) HI.out.tape).mono ?_
   rintro e w1 ⟨⟨N,hN,rfl⟩,T1,o1⟩
   obtain ⟨ks0,A0,c0,hk0,I1⟩:∃ks0 A0 c0,(ks0.length≤4∧ks0=ks∧A0=A∧c0=c)∧Hid (KdI w T ks0 (.slice A0 ks0.length c0) w1):=⟨ks,A,c,⟨by omega,rfl,rfl,rfl⟩,zH (HI.out.moved hTl o1 T1)⟩
   obtain ⟨hk0,rfl,rfl,rfl⟩:=hk0
   clear HI T1 o1 hkj
   go_wp2_with fail
   go_loopw [3,6] (fun v i wr=>∃ (j:Nat) (ks:List Int) (A:Option Addr) (c:Nat),i=.int .i64 (j:Int)∧ks.length+j≤5∧v=.slice A ks.length c∧Hid (KdI w T ks (.slice A ks.length c) wr)) (fun _ i _=>(intOf i).toNat)
   case atStart=>exact ⟨N,_,_,_,rfl,by omega,rfl,I1⟩
   obtain ⟨j,ks,A,c,rfl,hkj,rfl,HI⟩:=hrel
   clear I1
   by_cases hj:j=0
   ·subst hj
    go_wp2_with fail
    go_ret
    exact ⟨ks,A,c,rfl,by omega,HI.out⟩
   have hj1:decide ((j:Int)>0)=true:=by rw [decide_eq_true_eq];omega
   have hjw:IntKind.i64.wrap ((j:Int)-1)=((j-1:Nat):Int):=by rw [IntWalk.i64_in _ (by omega)];omega
   obtain ⟨lk,hlk⟩:∃lk,ks.length=lk:=⟨_,rfl⟩
   have hlm:lk+1≤maxLen:=by unfold maxLen;omega
   have hl8:(lk+1)*8≤140737488355328:=by omega
   have hkj':=zH hkj
   have HLK:=zH hlk
   obtain ⟨w2,hw2⟩:∃w2,wr.alloc (.cells #[.int .i64 0,.int .i64 2,.int .i64 5] 3)=w2:=⟨_,rfl⟩
   have b2:=zG hw2
   have TAB:Hid (∀r,r<3→w2.cell? ⟨wr.heap.size,r,none⟩=some (.int .i64 (kdTab.getD r 0))):=zH (fun r hr=>by rw [←hw2];exact kdTab_cell wr r hr)
   have hs2:wr.heap.size<w2.heap.size:=by rw [←hw2];simp
   have hsr:=HI.out.oth.size
   have I2:=zH (HI.out.below hTl b2)
   rw [hlk]
   clear hlk hkj b2
   go_wp2_with fail
   refine (tapeI_next T 3 w2 (by omega) (by omega) I2.out.tape).mono ?_
   rintro e w3 ⟨⟨r,hr,rfl⟩,T3,o3⟩
   have I3:=zH (I2.out.moved hTl o3 T3)
   have yt:=(o3.cell (p:=⟨wr.heap.size,r,none⟩) (by simp only;omega) (by simp only;omega)).trans (TAB.out r hr)
   generalize kdTab.getD r 0=x at *
   have hr1:(0:Int)≤(r:Int):=by omega
   have hr2:(r:Int)<3:=by omega
   have HOW:Hid (w3.ownsRow w.heap.size 3 1 (.slice A lk c) lk (ints ks)):=zH (by rw [←HLK.out];exact I3.out.own)
   have hsz:=I3.out.oth.size
   clear T3 o3 hw2
   go_wp2_with (at_builtin;refine wpList_append_own_at _ rfl _ _ 22 rfl w.heap.size 3 i0 (.int .i64 0) 1 8 Tryz.underlying22 hi hz0 hz1 hz2 rfl (by decide) _ _ _ rfl (HOW.out.alloc _) ⟨w3.heap.size,0,none⟩ 1 1 [.int .i64 x] rfl rfl (fun jj v hj=>ocells_new w3 _ rfl [.int .i64 x] 3 jj v hj) (by intro v hv;simp at hv;subst hv;rfl) hlm hl8 (oalloc_le hsz) ?_)
   intro v9 w9 hown9 hg9 _ _
   obtain ⟨A9,c9,rfl⟩:=oform hown9
   have HN:Hid (KdI w T (ks++[x]) (.slice A9 (ks++[x]).length c9) w9):=zH (by
    have el:(ks++[(x:Int)]).length=lk+1:=by rw [List.length_append,HLK.out];rfl
    rw [el]
    exact I3.out.step hTl (by rw [HLK.out];exact hg9) (by rw [HLK.out];exact hown9))
   have HL9:Hid ((ks++[(x:Int)]).length=lk+1∧(ks++[(x:Int)]).length+(j-1)≤5):=zH (by
    have el:(ks++[(x:Int)]).length=lk+1:=by rw [List.length_append,HLK.out];rfl
    have h1:=hkj'.out
    have h2:=HLK.out
    omega)
   clear hown9 hg9
   go_wp2_with fail
   go_roundw
   case rel=>exact ⟨j-1,ks++[x],A9,c9,rfl,HL9.out.2,by rw [HL9.out.1],HN⟩
   case measure=>simp [intOf];omega
  have hj1:decide ((j:Int)>0)=true:=by rw [decide_eq_true_eq];omega
  have hjw:IntKind.i64.wrap ((j:Int)-1)=((j-1:Nat):Int):=by rw [IntWalk.i64_in _ (by omega)];omega
  obtain ⟨lk,hlk⟩:∃lk,ks.length=lk:=⟨_,rfl⟩
  have hlm:lk+1≤maxLen:=by unfold maxLen;omega
  have hl8:(lk+1)*8≤140737488355328:=by omega
  have hkj':=zH hkj
  have HLK:=zH hlk
  have HOW:Hid (wr.ownsRow w.heap.size 3 1 (.slice A lk c) lk (ints ks)):=zH (by rw [←hlk];exact HI.out.own)
  have hsz:=HI.out.oth.size
  rw [hlk]
  clear hlk hkj
  go_wp2_with (at_builtin;refine wpList_append_own_at _ rfl _ _ 22 rfl w.heap.size 3 i0 (.int .i64 0) 1 8 Tryz.underlying22 hi hz0 hz1 hz2 rfl (by decide) _ _ _ rfl (HOW.out.alloc _) ⟨wr.heap.size,0,none⟩ 1 1 [.int .i64 1] rfl rfl (fun jj v hj=>ocells_new wr _ rfl [.int .i64 1] 3 jj v hj) (by intro v hv;simp at hv;subst hv;rfl) hlm hl8 (oalloc_le hsz) ?_)
  intro v9 w9 hown9 hg9 _ _
  obtain ⟨A9,c9,rfl⟩:=oform hown9
  have HN:Hid (KdI w T (ks++[1]) (.slice A9 (ks++[1]).length c9) w9):=zH (by
   have el:(ks++[(1:Int)]).length=lk+1:=by rw [List.length_append,HLK.out];rfl
   rw [el]
   exact HI.out.step hTl (by rw [HLK.out];exact hg9) (by rw [HLK.out];exact hown9))
  have HL9:Hid ((ks++[(1:Int)]).length=lk+1∧(ks++[(1:Int)]).length+(j-1)≤4):=zH (by
   have el:(ks++[(1:Int)]).length=lk+1:=by rw [List.length_append,HLK.out];rfl
   have h1:=hkj'.out
   have h2:=HLK.out
   omega)
  clear hown9 hg9
  go_wp2_with fail
  go_roundw
  case rel=>exact ⟨j-1,ks++[1],A9,c9,rfl,HL9.out.2,by rw [HL9.out.1],HN⟩
  case measure=>simp [intOf];omega
 have hj1:decide ((j:Int)>0)=true:=by rw [decide_eq_true_eq];omega
 have hjw:IntKind.i64.wrap ((j:Int)-1)=((j-1:Nat):Int):=by rw [IntWalk.i64_in _ (by omega)];omega
 obtain ⟨lk,hlk⟩:∃lk,ks.length=lk:=⟨_,rfl⟩
 have hlm:lk+1≤maxLen:=by unfold maxLen;omega
 have hl8:(lk+1)*8≤140737488355328:=by omega
 have hkj':=zH hkj
 have HLK:=zH hlk
 have HOW:Hid (wr.ownsRow w.heap.size 3 1 (.slice A lk c) lk (ints ks)):=zH (by rw [←hlk];exact HI.out.own)
 have hsz:=HI.out.oth.size
 rw [hlk]
 clear hlk hkj
 go_wp2_with (at_builtin;refine wpList_append_own_at _ rfl _ _ 22 rfl w.heap.size 3 i0 (.int .i64 0) 1 8 Tryz.underlying22 hi hz0 hz1 hz2 rfl (by decide) _ _ _ rfl (HOW.out.alloc _) ⟨wr.heap.size,0,none⟩ 1 1 [.int .i64 2] rfl rfl (fun jj v hj=>ocells_new wr _ rfl [.int .i64 2] 3 jj v hj) (by intro v hv;simp at hv;subst hv;rfl) hlm hl8 (oalloc_le hsz) ?_)
 intro v9 w9 hown9 hg9 _ _
 obtain ⟨A9,c9,rfl⟩:=oform hown9
 have HN:Hid (KdI w T (ks++[2]) (.slice A9 (ks++[2]).length c9) w9):=zH (by
  have el:(ks++[(2:Int)]).length=lk+1:=by rw [List.length_append,HLK.out];rfl
  rw [el]
  exact HI.out.step hTl (by rw [HLK.out];exact hg9) (by rw [HLK.out];exact hown9))
 have HL9:Hid ((ks++[(2:Int)]).length=lk+1∧(ks++[(2:Int)]).length+(j-1)≤2):=zH (by
  have el:(ks++[(2:Int)]).length=lk+1:=by rw [List.length_append,HLK.out];rfl
  have h1:=hkj'.out
  have h2:=HLK.out
  omega)
 clear hown9 hg9
 go_wp2_with fail
 go_roundw
 case rel=>exact ⟨j-1,ks++[2],A9,c9,rfl,HL9.out.2,by rw [HL9.out.1],HN⟩
 case measure=>simp [intOf];omega
end Go.Proofs.YtadjpadieljjlaaGreat
namespace Go.Proofs.YtadjpadieljjlaaGreat
open Go.RowKit Go.Maps
attribute [local go_sem ↓] Go.wp_at_zero Go.wp_at_succ
def PartAns (w:World) (T n:Nat) (q:Nat→Prop) (e:Ending) (w':World):Prop :=
 (∃k nm p ts A c,e=.returned (.agg #[.int .i64 k,S nm,.int .i64 p,.slice A (List.length ts) c])∧TreeVP q w' (.node k nm p ts) (.agg #[.int .i64 k,S nm,.int .i64 p,.slice A (List.length ts) c])∧(Lfc.Raw.node k nm p ts).size≤n∧(Lfc.Raw.node k nm p ts).posB 1048576=true)∧TapeI T w'∧Oth T w w'
structure PtD (w:World) (T B n:Nat) (q:Nat→Prop) (wr:World):Prop where
 u:∃k nm p ts A c,wr.heap[B]?=some (.cells #[.int .i64 k,S nm,.int .i64 p,.slice A (List.length ts) c] 51 (0,0))∧TreeVP (fun b=>q b∧b≠B∧b≠B+1) wr (.node k nm p ts) (.agg #[.int .i64 k,S nm,.int .i64 p,.slice A (List.length ts) c])∧(Lfc.Raw.node k nm p ts).size≤n∧(Lfc.Raw.node k nm p ts).posB 1048576=true
 tape:TapeI T wr
 oth:Oth T w wr
 res:wr.heap[B+1]?=some (.cells #[.int .i64 0,S [],.int .i64 0,.slice none 0 0] 51 (0,0))
theorem RowP.getP {q:Nat→Prop} {w:World}:∀ {ts:List Lfc.Raw} {xs:List Value} (i:Nat) (h:i<ts.length),RowP q w ts xs→∃v0 v1 v2 v3,xs[i*4]?=some v0∧xs[i*4+1]?=some v1∧xs[i*4+2]?=some v2∧xs[i*4+3]?=some v3∧TreeP q w ts[i] v0 v1 v2 v3
 | [],_,_,h,_=>by simp at h
 | t :: r,xs,i,h,hr=>by
  rw [RowP] at hr
  obtain ⟨v0,v1,v2,v3,ys,rfl,ht,hr⟩:=hr
  match i with
  | 0=>exact ⟨v0,v1,v2,v3,rfl,rfl,rfl,rfl,ht⟩
  | i+1 =>
   obtain ⟨u0,u1,u2,u3,h0,h1,h2,h3,hu⟩:=RowP.getP i (by simpa using h) hr
   refine ⟨u0,u1,u2,u3,?_,?_,?_,?_,hu⟩
   ·rw [show (i+1)*4=i*4+1+1+1+1 by omega];simpa using h0
   ·rw [show (i+1)*4+1=i*4+1+1+1+1+1 by omega];simpa using h1
   ·rw [show (i+1)*4+2=i*4+2+1+1+1+1 by omega];simpa using h2
   rw [show (i+1)*4+3=i*4+3+1+1+1+1 by omega];simpa using h3
theorem TreesAtP.at_ {q:Nat→Prop} {w:World} {A:Option Addr} {ts:List Lfc.Raw} (h:TreesAtP q w A ts) {i:Nat} (hi:i<ts.length) :
  ∃b o k n p us B c,A=some ⟨b,o,none⟩∧b<w.heap.size∧q b∧ts[i]=.node k n p us∧w.cell? ⟨b,o+i*4,none⟩=some (.int .i64 k)∧w.cell? ⟨b,o+i*4+1,none⟩=some (S n)∧w.cell? ⟨b,o+i*4+2,none⟩=some (.int .i64 p)∧w.cell? ⟨b,o+i*4+3,none⟩=some (.slice B us.length c)∧TreeVP q w (.node k n p us) (.agg #[.int .i64 k,S n,.int .i64 p,.slice B us.length c]):=by
 obtain ⟨b,o,hA,hlt,hqb,hts⟩:=h (by intro h0;rw [h0] at hi;simp at hi)
 obtain ⟨xs,hrow,hcells⟩:=hts.row
 have hx:=hrow.len
 obtain ⟨v0,v1,v2,v3,h0,h1,h2,h3,hP⟩:=RowP.getP i hi hrow
 obtain ⟨k,n,p,us,ht⟩:=Lfc.Raw.ex ts[i]
 have hP':=hP
 rw [ht,TreeP] at hP
 obtain ⟨rfl,rfl,_,rfl,B,c,rfl,_⟩:=hP
 exact ⟨b,o,k,n,p,us,B,c,hA,hlt,hqb,ht,hcells _ _ h0,hcells _ _ h1,hcells _ _ h2,hcells _ _ h3,_,_,_,_,rfl,by rw [←ht];exact hP'⟩
theorem PtD.down {w wr w5 s4:World} {T B n:Nat} {q:Nat→Prop} (hqT:∀b,q b→b≠T) {k k1 p p1:Int} {nm n1:List UInt8} {ts us:List Lfc.Raw} {A1:Option Addr} {c1 i:Nat} (h:PtD w T B n q wr) (hTB:T<B) (hwB:w.heap.size≤B) (hsz:(Lfc.Raw.node k nm p ts).size≤n) (hpo:(Lfc.Raw.node k nm p ts).posB 1048576=true) (hi:i<ts.length) (hti:ts[i]=.node k1 n1 p1 us)
  (hv:TreeVP (fun b=>q b∧b≠B∧b≠B+1) wr (.node k1 n1 p1 us) (.agg #[.int .i64 k1,S n1,.int .i64 p1,.slice A1 us.length c1])) (o5:Oth T wr w5) (t5:TapeI T w5) (ho:Oth B w5 s4) (hq:s4.heap[B]?=some (.cells #[.int .i64 k1,S n1,.int .i64 p1,.slice A1 us.length c1] 51 (0,0))):PtD w T B n q s4:=by
 have hs5:=o5.size
 have hmem:=Lfc.Raw.sizes_mem ts ts[i] (List.getElem_mem _)
 have hres:=zL h.res
 refine ⟨⟨k1,n1,p1,us,A1,c1,hq,hv.keep (fun b hb hlt=>?_) (Nat.le_trans hs5 ho.size) (fun b _ hb=>hb),?_,?_⟩,t5.oth (by omega) ho,?_,?_⟩
 ·exact (ho.block b (by omega) (fun e=>hb.2.1 (zO e))).trans (o5.block b hlt (fun e=>hqT b hb.1 (zO e)))
 ·rw [←hti];rw [Lfc.Raw.size] at hsz;omega
 ·rw [←hti]
  rw [Lfc.Raw.posB,Bool.and_eq_true] at hpo
  exact Lfc.posBs_at _ ts hpo.2 i hi
 ·have h1:=h.oth.size
  exact ⟨ho.os.trans (o5.os.trans h.oth.os),ho.tape.trans (o5.tape.trans h.oth.tape),ho.output.trans (o5.output.trans h.oth.output),Nat.le_trans h1 (Nat.le_trans hs5 ho.size),fun b hb hn=>(ho.block b (by omega) (fun e=>by have:=zO e;omega)).trans ((o5.block b (by omega) hn).trans (h.oth.block b hb hn))⟩
 exact ho.heap (o5.heap h.res (by omega)) (by omega)
end Go.Proofs.YtadjpadieljjlaaGreat
