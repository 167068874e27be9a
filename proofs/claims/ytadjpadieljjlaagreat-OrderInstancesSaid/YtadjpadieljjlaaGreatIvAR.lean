/- Parts of the proof that no input makes the law false: SmPart2, SmObj. -/
import Derived.Deep.RegionLawGrows
import Derived.Test.YtadjpadieljjlaaGreatIvAQ
set_option linter.unusedVariables false
set_option linter.unusedSimpArgs false
set_option maxRecDepth 100000
set_option maxHeartbeats 32000000
namespace Go.Proofs.YtadjpadieljjlaaGreat
open Go.RowKit Go.Maps
attribute [local go_sem ↓] Go.wp_at_zero Go.wp_at_succ
theorem mPart_any (q:Nat→Prop) (T vars n:Nat) (u:Lfc.Raw) (vu:Value) (w:World) (hn:n≤90) (hvars:vars≤50) (hu:u.size≤n) (hpo:u.posB 1048576=true) (hT:TapeI T w) (hqT:∀b,q b→b≠T) (hqn:∀b,w.heap.size≤b→q b) (hv:TreeVP q w u vu) :
  Calls Tryz.prog 29 #[.pointer (some ⟨T,0,none⟩),vu,.int .i64 (vars:Int)] w (PartAns w T n q):=by
 have hTl:=hT.lt
 obtain ⟨i0,hi,hz0,hz1,hz2⟩:=info_parts intInfo
 obtain ⟨ku,nu,pu,us,hue⟩:=Lfc.Raw.ex u
 rw [hue] at hv hu hpo
 obtain ⟨Au,cu,rfl,hpu⟩:=hv.openT
 obtain ⟨w2,hw2⟩:∃w2,(w.alloc (.cells #[.int .i64 ku,S nu,.int .i64 pu,.slice Au us.length cu] 51)).alloc (.cells #[.int .i64 0,S [],.int .i64 0,.slice none 0 0] 51)=w2:=⟨_,rfl⟩
 have b12:Below w.heap.size w w2:=by rw [←hw2];exact ((zB _ _).alloc (zN _) _).alloc (by simp) _
 have q1:w2.heap[w.heap.size]?=some (.cells #[.int .i64 ku,S nu,.int .i64 pu,.slice Au us.length cu] 51 (0,0)):=by rw [←hw2];exact (zA _ _ _ (by simp)).trans (zW _ _)
 have q2:w2.heap[w.heap.size+1]?=some (.cells #[.int .i64 0,S [],.int .i64 0,.slice none 0 0] 51 (0,0)):=by
  rw [←hw2]
  have:=zW (w.alloc (.cells #[.int .i64 ku,S nu,.int .i64 pu,.slice Au us.length cu] 51)) (.cells #[.int .i64 0,S [],.int .i64 0,.slice none 0 0] 51)
  simpa using this
 have D0:Hid (PtD w T w.heap.size n q w2):=zH ⟨⟨ku,nu,pu,us,Au,cu,q1,hv.keep (fun b _ hlt=>b12.block b hlt) b12.size (fun b hlt hb=>⟨hb,by omega,by omega⟩),hu,hpo⟩,hT.below b12,Oth.of_below b12,q2⟩
 clear hv hpu hT q1 q2 b12 hu hpo hue
 go_enter Tryz.func29,Tryz.ntmps29
 go_wp2_with fail
 clear hw2
 refine (tapeI_next T 4 w2 (by omega) (by omega) D0.out.tape).mono ?_
 rintro e w3 ⟨⟨r,hr,rfl⟩,T3,o3⟩
 have D1:Hid (PtD w T w.heap.size n q w3):=zH (by
  obtain ⟨k,nm,p,ts,A,c,hq,hv,hsz,hpo⟩:=D0.out.u
  exact ⟨⟨k,nm,p,ts,A,c,o3.heap hq (by omega),hv.keep (fun b hb hlt=>o3.block b hlt (fun e=>hqT b hb.1 (zO e))) o3.size (fun b _ hb=>hb),hsz,hpo⟩,T3,D0.out.oth.trans o3,o3.heap D0.out.res (by omega)⟩)
 clear D0 T3 o3
 go_upto_block 0 with fail
 go_cut [7,8] (fun s7 s8 wx=>∃c:Nat,s7=.int .i64 (c:Int)∧c≤3∧Hid (PtD w T w.heap.size n q wx))
 case first =>
  go_wp2_with fail
  go_loopw [7,8] (fun cr i wr=>∃j c:Nat,i=.int .i64 (j:Int)∧cr=.int .i64 (c:Int)∧j+c≤3∧Hid (PtD w T w.heap.size n q wr)) (fun _ i _=>(intOf i).toNat)
  case atStart=>exact ⟨r,0,rfl,rfl,by omega,D1⟩
  obtain ⟨j,c,rfl,rfl,hjc,HD⟩:=hrel
  clear D1
  obtain ⟨k,nm,p,ts,A,ca,hq,hvt,hsz,hpo⟩:=HD.out.u
  obtain ⟨x0,x1,x2,x3⟩:=cells4t hq
  have HQ:=zH hq
  have HV:=zH hvt
  have HSZ:=zH (And.intro hsz hpo)
  have hlen:ts.length≤90:=by have:=Lfc.Raw.sizes_len ts;rw [Lfc.Raw.size] at hsz;omega
  have hlt:=zL hq
  clear hq hvt hsz hpo
  by_cases hgo:0<j∧0<ts.length
  ·obtain ⟨hj0,ht0⟩:=hgo
   have hj1:decide ((j:Int)>0)=true:=by rw [decide_eq_true_eq];omega
   have ht1:decide ((ts.length:Int)>0)=true:=by rw [decide_eq_true_eq];omega
   have hjw:IntKind.i64.wrap ((j:Int)-1)=((j-1:Nat):Int):=by rw [IntWalk.i64_in _ (by omega)];omega
   have hcw:IntKind.i64.wrap ((c:Int)+1)=((c+1:Nat):Int):=by rw [IntWalk.i64_in _ (by omega)];omega
   have EL:Hid (∀w5 i,Oth T wr.drew w5→TapeI T w5→i<ts.length→∃b o k1 n1 p1 us B c1,A=some ⟨b,o,none⟩∧w5.cell? ⟨w.heap.size,3,none⟩=some (.slice A ts.length ca)∧(w5.cell? ⟨b,o+i*4,none⟩=some (.int .i64 k1)∧w5.cell? ⟨b,o+i*4+1,none⟩=some (S n1)∧w5.cell? ⟨b,o+i*4+2,none⟩=some (.int .i64 p1)∧w5.cell? ⟨b,o+i*4+3,none⟩=some (.slice B (List.length us) c1)) ∧
    ∃s1 s2 s3 s4,w5.setCell ⟨w.heap.size,0,none⟩ (.int .i64 k1)=s1∧s1.setCell ⟨w.heap.size,1,none⟩ (S n1)=s2∧s2.setCell ⟨w.heap.size,2,none⟩ (.int .i64 p1)=s3∧s3.setCell ⟨w.heap.size,3,none⟩ (.slice B (List.length us) c1)=s4 ∧
    (w5.cell? ⟨w.heap.size,0,none⟩=some (.int .i64 k)∧s1.cell? ⟨w.heap.size,1,none⟩=some (S nm)∧s2.cell? ⟨w.heap.size,2,none⟩=some (.int .i64 p)∧s3.cell? ⟨w.heap.size,3,none⟩=some (.slice A ts.length ca)) ∧
    (w5.frozen? ⟨w.heap.size,0,none⟩=false∧s1.frozen? ⟨w.heap.size,1,none⟩=false∧s2.frozen? ⟨w.heap.size,2,none⟩=false∧s3.frozen? ⟨w.heap.size,3,none⟩=false)∧Hid (PtD w T w.heap.size n q s4)):=zH (fun w5 i o5 t5 hi=>by
     have o5':Oth T wr w5:=⟨o5.os,o5.tape,o5.output,o5.size,o5.block⟩
     have hA:TreesAtP (fun b=>q b∧b≠w.heap.size∧b≠w.heap.size+1) wr A ts:=by
      obtain ⟨v0,v1,v2,v3,e,hP⟩:=HV.out
      cases e
      rw [TreeP] at hP
      obtain ⟨_,_,_,_,A',c',e,h1,h2⟩:=hP
      cases e
      exact h2
     obtain ⟨b,o,k1,n1,p1,us,B,c1,hA1,hb,hqb,hti,d0,d1,d2,d3,hve⟩:=hA.at_ hi
     have cc:∀j,w5.cell? ⟨b,j,none⟩=wr.cell? ⟨b,j,none⟩:=fun j=>o5'.cell (p:=⟨b,j,none⟩) hb (hqT b hqb.1)
     obtain ⟨s1,s2,s3,s4,g1,g2,g3,g4,hy,hf,hq4,hot⟩:=tput4 (o5'.heap HQ.out (by omega)) (.int .i64 k1) (S n1) (.int .i64 p1) (.slice B us.length c1)
     exact ⟨b,o,k1,n1,p1,us,B,c1,hA1,zC (o5'.heap HQ.out (by omega)) 3,⟨(cc _).trans d0,(cc _).trans d1,(cc _).trans d2,(cc _).trans d3⟩,s1,s2,s3,s4,g1,g2,g3,g4,hy,hf,zH (HD.out.down hqT (by omega) (zN _) HSZ.out.1 HSZ.out.2 hi hti hve o5' t5 hot hq4)⟩)
   have TX:=zH HD.out.tape
   have hk:((k == 3)=true)∨((k == 3)=false):=by cases (k == 3) <;> simp
   rcases hk with g3 | g3
   all_goals
    go_upto_region 7 with fail
    go_region_law (go_simp;go_at_call 12;refine (tapeI_next T ts.length _ ht0 (by omega) (TX.out.below (zB _ _).drew)).mono ?_;rintro e w5 ⟨⟨i,hi2,rfl⟩,T5,o5⟩;obtain ⟨b,o,k1,n1,p1,us,B,c1,hA1,y3w,⟨d0,d1,d2,d3⟩,s1,s2,s3,s4,e1,e2,e3,e4,⟨y0,y1,y2,y3⟩,⟨f0,f1,f2,f3⟩,HN⟩:=EL.out w5 i o5 T5 hi2;subst hA1;have hi3:(0:Int)≤(i:Int):=Int.natCast_nonneg _;have hi4:(i:Int)<(ts.length:Int):=by omega)
    all_goals
     clear T5 o5
     go_wp2_with fail
     go_roundw
     case rel=>first | exact ⟨j-1,c+1,rfl,rfl,by omega,HN⟩ | exact ⟨j-1,c,rfl,rfl,by omega,HN⟩
     case measure=>simp [intOf];omega
  have hstop:j=0∨(0<j∧ts.length=0):=by omega
  have HM:=HD
  clear hgo
  rcases hstop with rfl | ⟨hj0,ht0⟩
  ·go_wp2_with fail
   go_meet
   exact ⟨c,rfl,by omega,HM⟩
  have hj1:decide ((j:Int)>0)=true:=by rw [decide_eq_true_eq];omega
  obtain rfl:ts=[]:=List.length_eq_zero_iff.1 ht0
  have ht1:decide (((([]:List Lfc.Raw).length:Nat):Int)>0)=false:=by decide
  go_wp2_with fail
  go_meet
  exact ⟨c,rfl,by omega,HM⟩
 obtain ⟨c,rfl,hc3,HD⟩:=hcut
 rename_i wr
 obtain ⟨k,nm,p,ts,A,ca,hq,hvt,hsz,hpo⟩:=HD.out.u
 have HQ:=zH hq
 have HV:=zH hvt
 have HSZ:=zH (And.intro hsz hpo)
 have hlt:=zL hq
 clear hq hvt hsz hpo D1
 have HRES:=zH HD.out.res
 have hrl:=zL HRES.out
 have I0:Hid (KdI wc T [] (.slice none 0 0) wc):=zH ⟨HD.out.tape,Oth.refl _ _,⟨by simp [ints],.inl ⟨rfl,rfl⟩⟩⟩
 have HOW0:=zH HD.out.oth
 have hTr:T<wc.heap.size:=HD.out.tape.lt
 have hvw:IntKind.i64.wrap ((vars:Int)+1)=((vars+1:Nat):Int):=by rw [IntWalk.i64_in _ (by omega)];omega
 clear HD
 go_wp2_with fail
 go_loopw [9,10] (fun v i wr=>∃ (j:Nat) (ks:List Int) (A':Option Addr) (c':Nat),i=.int .i64 (j:Int)∧j≤c∧ks.length≤0+j∧v=.slice A' ks.length c'∧Hid (KdI wc T ks (.slice A' ks.length c') wr)) (fun _ i _=>c-(intOf i).toNat)
 case atStart=>exact ⟨0,_,_,_,rfl,by omega,by first | omega | simp,rfl,I0⟩
 obtain ⟨j,ks,A',c',rfl,hjg,hkj,rfl,HI⟩:=hrel
 clear I0
 by_cases hj:j<c
 ·have hj1:decide ((j:Int)<(c:Int))=true:=by rw [decide_eq_true_eq];omega
  obtain ⟨lk,hlk⟩:∃lk,ks.length=lk:=⟨_,rfl⟩
  have hlm:lk+1≤maxLen:=by unfold maxLen;omega
  have hl8:(lk+1)*8≤140737488355328:=by omega
  have HKJ:=zH hkj
  have HLK:=zH hlk
  have hsx:=HI.out.oth.size
  rw [hlk]
  clear hlk hkj
  go_wp2_with fail
  refine (tapeI_next T (vars+1) _ (by omega) (by omega) HI.out.tape).mono ?_
  rintro e w5 ⟨⟨x,hx,rfl⟩,T5,o5⟩
  have I5:=zH (HI.out.moved hTr o5 T5)
  have HOW:Hid (w5.ownsRow wc.heap.size 3 1 (.slice A' lk c') lk (ints ks)):=zH (by rw [←HLK.out];exact I5.out.own)
  have hsz5:=I5.out.oth.size
  clear T5 o5
  go_wp2_with (at_builtin;refine wpList_append_own_at _ rfl _ _ 22 rfl wc.heap.size 3 i0 (.int .i64 0) 1 8 Tryz.underlying22 hi hz0 hz1 hz2 rfl (by decide) _ _ _ rfl (HOW.out.alloc _) ⟨w5.heap.size,0,none⟩ 1 1 [.int .i64 (x:Int)] rfl rfl (fun jj v hj=>ocells_new w5 _ rfl [.int .i64 (x:Int)] 3 jj v hj) (by intro v hv;simp at hv;subst hv;rfl) hlm hl8 (oalloc_le hsz5) ?_)
  intro v9 w9 hown9 hg9 _ _
  obtain ⟨A9,c9,rfl⟩:=oform hown9
  have HN:Hid (KdI wc T (ks++[(x:Int)]) (.slice A9 (ks++[(x:Int)]).length c9) w9):=zH (by
   have el:(ks++[(x:Int)]).length=lk+1:=by rw [List.length_append,HLK.out];rfl
   rw [el]
   exact I5.out.step hTr (by rw [HLK.out];exact hg9) (by rw [HLK.out];exact hown9))
  have HL9:Hid ((ks++[(x:Int)]).length=lk+1∧(ks++[(x:Int)]).length≤0+(j+1)):=zH (by
   have el:(ks++[(x:Int)]).length=lk+1:=by rw [List.length_append,HLK.out];rfl
   have h1:=HKJ.out
   have h2:=HLK.out
   omega)
  clear hown9 hg9
  go_wp2_with fail
  go_roundw
  case rel=>exact ⟨j+1,ks++[(x:Int)],A9,c9,by go_num,by omega,HL9.out.2,by rw [HL9.out.1],HN⟩
  case measure=>simp [intOf];omega
 have hj1:decide ((j:Int)<(c:Int))=false:=by rw [decide_eq_false_iff_not];omega
 have I0:Hid (KdI wc T ks (.slice A' ks.length c') wr):=HI
 have hk3:ks.length≤3:=by omega
 clear HI hkj hjg
 go_wp2_with fail
 go_loopw [9,11] (fun v i wr=>∃ (j:Nat) (ks:List Int) (A':Option Addr) (c':Nat),i=.int .i64 (j:Int)∧j≤12∧ks.length≤3+j∧v=.slice A' ks.length c'∧Hid (KdI wc T ks (.slice A' ks.length c') wr)) (fun _ i _=>12-(intOf i).toNat)
 case atStart=>exact ⟨0,ks,A',c',rfl,by omega,by omega,rfl,I0⟩
 obtain ⟨j,ks,A',c',rfl,hjg,hkj,rfl,HI⟩:=hrel
 clear I0
 by_cases hj:j<12
 ·have hj1:decide ((j:Int)<12)=true:=by rw [decide_eq_true_eq];omega
  obtain ⟨lk,hlk⟩:∃lk,ks.length=lk:=⟨_,rfl⟩
  have hlm:lk+1≤maxLen:=by unfold maxLen;omega
  have hl8:(lk+1)*8≤140737488355328:=by omega
  have HKJ:=zH hkj
  have HLK:=zH hlk
  have hsz5:=HI.out.oth.size
  have HOW:Hid (wr.ownsRow wc.heap.size 3 1 (.slice A' lk c') lk (ints ks)):=zH (by rw [←hlk];exact HI.out.own)
  rw [hlk]
  clear hlk hkj
  go_wp2_with (at_builtin;refine wpList_append_own_at _ rfl _ _ 22 rfl wc.heap.size 3 i0 (.int .i64 0) 1 8 Tryz.underlying22 hi hz0 hz1 hz2 rfl (by decide) _ _ _ rfl (HOW.out.alloc _) ⟨wr.heap.size,0,none⟩ 1 1 [.int .i64 (j:Int)] rfl rfl (fun jj v hj=>ocells_new wr _ rfl [.int .i64 (j:Int)] 3 jj v hj) (by intro v hv;simp at hv;subst hv;rfl) hlm hl8 (oalloc_le hsz5) ?_)
  intro v9 w9 hown9 hg9 _ _
  obtain ⟨A9,c9,rfl⟩:=oform hown9
  have HN:Hid (KdI wc T (ks++[(j:Int)]) (.slice A9 (ks++[(j:Int)]).length c9) w9):=zH (by
   have el:(ks++[(j:Int)]).length=lk+1:=by rw [List.length_append,HLK.out];rfl
   rw [el]
   exact HI.out.step hTr (by rw [HLK.out];exact hg9) (by rw [HLK.out];exact hown9))
  have HL9:Hid ((ks++[(j:Int)]).length=lk+1∧(ks++[(j:Int)]).length≤3+(j+1)):=zH (by
   have el:(ks++[(j:Int)]).length=lk+1:=by rw [List.length_append,HLK.out];rfl
   have h1:=HKJ.out
   have h2:=HLK.out
   omega)
  clear hown9 hg9
  go_wp2_with fail
  go_roundw
  case rel=>exact ⟨j+1,ks++[(j:Int)],A9,c9,by go_num,by omega,HL9.out.2,by rw [HL9.out.1],HN⟩
  case measure=>simp [intOf];omega
 have hj1:decide ((j:Int)<12)=false:=by rw [decide_eq_false_iff_not];omega
 have BX:Hid (wr.heap[w.heap.size]?=some (.cells #[.int .i64 k,S nm,.int .i64 p,.slice A ts.length ca] 51 (0,0))):=zH (HI.out.oth.heap HQ.out (by omega))
 have RX:Hid (wr.heap[w.heap.size+1]?=some (.cells #[.int .i64 0,S [],.int .i64 0,.slice none 0 0] 51 (0,0))):=zH (HI.out.oth.heap HRES.out (by omega))
 have hvx:=HV.out.keep (fun b hb hlt=>HI.out.oth.block b hlt (fun e=>hqT b hb.1 (zO e))) HI.out.oth.size (fun b _ hb=>hb)
 have HVX:=zH hvx
 have IX:=HI.out.ints
 have hkl:ks.length≤20:=by omega
 have CR:=zH (sRename_any _ _ ks A' c' wr (by have:=HSZ.out.1;omega) HSZ.out.2 (by omega) IX.toO hvx.toV)
 have HOX:=zH (HOW0.out.trans HI.out.oth)
 have TX:=zH HI.out.tape
 have hsx:=HI.out.oth.size
 obtain ⟨x0,x1,x2,x3⟩:=cells4t BX.out
 clear hvx IX HI hkj hjg
 go_wp2_with fail
 refine CR.out.mono ?_
 rintro e w6 ⟨⟨k9,n9,p9,ts9,A9,c9,b9,rfl,hv9,hz9,hq9⟩,b6⟩
 obtain ⟨w7,hw7⟩:∃w7,w6.alloc (.cells #[.int .i64 k9,S n9,.int .i64 p9,.slice A9 ts9.length c9] 51)=w7:=⟨_,rfl⟩
 have b7:=zG hw7
 have q7:=zQ hw7
 have b67:Below wr.heap.size wr w7:=b6.trans (b7.mono b6.size)
 have hs67:=b67.size
 have H7:=zH hw7
 have RES:Hid (∀ (k' p':Int) (n':List UInt8) (ts':List Lfc.Raw) (A'':Option Addr) (c'':Nat),TreeVP (fun b=>q b∧b≠w.heap.size+1) w7 (.node k' n' p' ts') (.agg #[.int .i64 k',S n',.int .i64 p',.slice A'' (List.length ts') c''])→(Lfc.Raw.node k' n' p' ts').size≤n→(Lfc.Raw.node k' n' p' ts').posB 1048576=true→∃s1 s2 s3 s4,w7.setCell ⟨w.heap.size+1,0,none⟩ (.int .i64 k')=s1∧s1.setCell ⟨w.heap.size+1,1,none⟩ (S n')=s2∧s2.setCell ⟨w.heap.size+1,2,none⟩ (.int .i64 p')=s3∧s3.setCell ⟨w.heap.size+1,3,none⟩ (.slice A'' (List.length ts') c'')=s4 ∧
  (w7.cell? ⟨w.heap.size+1,0,none⟩=some (.int .i64 0)∧s1.cell? ⟨w.heap.size+1,1,none⟩=some (S [])∧s2.cell? ⟨w.heap.size+1,2,none⟩=some (.int .i64 0)∧s3.cell? ⟨w.heap.size+1,3,none⟩=some (.slice none 0 0)) ∧
  (w7.frozen? ⟨w.heap.size+1,0,none⟩=false∧s1.frozen? ⟨w.heap.size+1,1,none⟩=false∧s2.frozen? ⟨w.heap.size+1,2,none⟩=false∧s3.frozen? ⟨w.heap.size+1,3,none⟩=false) ∧
  Hid (s4.heap[w.heap.size+1]?=some (.cells #[.int .i64 k',S n',.int .i64 p',.slice A'' (List.length ts') c''] 51 (0,0)))∧Hid (PartAns w T n q (.returned (.agg #[.int .i64 k',S n',.int .i64 p',.slice A'' (List.length ts') c''])) s4)):=zH (fun k' p' n' ts' A'' c'' hv' hz' hpp'=>by
   obtain ⟨s1,s2,s3,s4,g1,g2,g3,g4,hy,hf,hq4,hot⟩:=tput4 ((b67.block _ (by omega)).trans RX.out) (.int .i64 k') (S n') (.int .i64 p') (.slice A'' (List.length ts') c'')
   refine ⟨s1,s2,s3,s4,g1,g2,g3,g4,hy,hf,zH hq4,zH ⟨⟨k',n',p',ts',A'',c'',rfl,hv'.keep (fun b hb hlt=>hot.block b hlt (fun e=>hb.2 (zO e))) hot.size (fun b _ hb=>hb.1),hz',hpp'⟩,(TX.out.below b67).oth (by omega) hot,?_⟩⟩
   exact Oth.of_new HOX.out ⟨hot.os.trans b67.os,hot.tape.trans b67.tape,hot.output.trans b67.output,Nat.le_trans hs67 hot.size,fun b hb=>(hot.block b (by omega) (fun e=>by have:=zO e;omega)).trans (b67.block b (by omega))⟩)
 have V1:Hid (TreeVP (fun b=>q b∧b≠w.heap.size+1) w7 (.node k9 n9 p9 ts9) (.agg #[.int .i64 k9,S n9,.int .i64 p9,.slice A9 ts9.length c9])):=zH (hv9.keep (fun b _ hlt=>b7.block b hlt) b7.size (fun b _ hb=>by have hb:wr.heap.size≤b:=hb;exact ⟨hqn b (by omega),by omega⟩))
 have Z1:=zH (show (Lfc.Raw.node k9 n9 p9 ts9).size≤n from Nat.le_trans hz9 HSZ.out.1)
 obtain ⟨u0,u1,u2,u3⟩:=cells4t q7
 have z:=cells4t ((b67.block _ (by omega)).trans BX.out)
 obtain ⟨z0,z1,z2,z3⟩:=z
 have HQ9:=zH hq9
 clear hv9 hz9 hq9 b6 b7 q7 hw7
 go_upto_region 18 with fail
 rw [H7.out]
 clear H7 x0 x1 x2 x3
 cases b9
 case false =>
  have hv7:Hid (TreeVP (fun b=>q b∧b≠w.heap.size+1) w7 (.node k nm p ts) (.agg #[.int .i64 k,S nm,.int .i64 p,.slice A ts.length ca])):=zH (HVX.out.keep (fun b _ hlt=>b67.block b hlt) b67.size (fun b _ hb=>⟨hb.1,hb.2.2⟩))
  obtain ⟨s1,s2,s3,s4,g1,g2,g3',g4,⟨y0,y1,y2,y3⟩,⟨f0,f1,f2,f3⟩,HQ4,HZ⟩:=RES.out k p nm ts A ca hv7.out HSZ.out.1 HSZ.out.2
  clear b67 u0 u1 u2 u3
  go_wp2_with fail
  refine bodyPost_ret (results_term rfl _ _ _ _ _ _ _ rfl HQ4.out) rfl ?_
  exact HZ.out
 case true =>
  obtain ⟨s1,s2,s3,s4,g1,g2,g3',g4,⟨y0,y1,y2,y3⟩,⟨f0,f1,f2,f3⟩,HQ4,HZ⟩:=RES.out k9 p9 n9 ts9 A9 c9 V1.out Z1.out (HQ9.out rfl)
  clear b67 z0 z1 z2 z3
  go_wp2_with fail
  refine bodyPost_ret (results_term rfl _ _ _ _ _ _ _ rfl HQ4.out) rfl ?_
  exact HZ.out
end Go.Proofs.YtadjpadieljjlaaGreat
namespace Go.Proofs.YtadjpadieljjlaaGreat
open Go.RowKit Go.Maps
attribute [local go_sem ↓] Go.wp_at_zero Go.wp_at_succ
def scName (r:Nat):List UInt8:=if r=0 then [115] else [99]
theorem sc_cell (w:World) (r:Nat) (hr:r<2):(w.alloc (.cells #[.string ⟨#[115]⟩,.string ⟨#[99]⟩] 9)).cell? ⟨w.heap.size,r,none⟩=some (S (scName r)):=by
 have q:=zW w (.cells #[.string ⟨#[115]⟩,.string ⟨#[99]⟩] 9)
 match r,hr with
 | 0,_=>exact zC q 0
 | 1,_=>exact zC q 1
theorem scName_len (r:Nat):(scName r).length≤1000000:=by unfold scName;split <;> simp
theorem scName_head (r l:Nat):Lfc.headB 4 0 (scName r) l=true:=by
 unfold scName Lfc.headB
 split <;> simp <;> decide
def ObjMade (d:Nat):Prop:=∀ (T vars:Nat) (w:World),vars+d≤50→TapeI T w →
  Calls Tryz.prog 28 #[.pointer (some ⟨T,0,none⟩),.int .i64 (d:Int),.int .i64 (vars:Int)] w (MadeT w T (2 ^ (d+1)))
theorem mObj_any:∀ (d:Nat),d≤4→ObjMade d:=by
 intro d
 induction d using Nat.strongRecOn with
 | ind d ih0 =>
 intro hd4 T vars w hvd hT
 have IH:=zH ih0
 clear ih0
 have hTl:=hT.lt
 obtain ⟨i0,hi,hz0,hz1,hz2⟩:=term_infoM
 obtain ⟨wa,hwa⟩:∃wa,w.alloc (.cells #[.int .i64 0,S [],.int .i64 0,.slice none 0 0] 51)=wa:=⟨_,rfl⟩
 have ba:=zG hwa
 have qa:=zQ hwa
 have la:=zL qa
 have QA:=zH qa
 have OA:Hid (Oth T w wa):=zH (Oth.of_below ba)
 have TA:=zH (hT.below ba)
 obtain ⟨PP,hPP⟩:∃PP,2 ^ d=PP:=⟨_,rfl⟩
 have hpw:2 ^ (d+1)=2*PP:=by rw [Nat.pow_succ,hPP];omega
 have hpp:1≤PP:=by rw [←hPP];exact Nat.one_le_two_pow
 have IHD:Hid (0<d→∀ (T vars:Nat) (w:World),vars+(d-1)≤50→TapeI T w→Calls Tryz.prog 28 #[.pointer (some ⟨T,0,none⟩),.int .i64 ((d-1:Nat):Int),.int .i64 (vars:Int)] w (MadeT w T PP)):=zH (fun h=>by
  have:=IH.out (d-1) (by omega) (by omega)
  unfold ObjMade at this
  rwa [show d-1+1=d by omega,hPP] at this)
 have HPW:=zH (And.intro hpw hpp)
 clear hT ba qa hPP hpw hpp IH
 go_enter Tryz.func28,Tryz.ntmps28
 go_wp2_with fail
 refine (tapeI_next T 6 wa (by omega) (by omega) TA.out).mono ?_
 rintro e w1 ⟨⟨c,hc,rfl⟩,T1',o1'⟩
 have T1:=zH T1'
 have O1:=zH o1'
 have hs1:=o1'.size
 clear T1' o1' hwa
 go_upto_block 0 with fail
 go_cut [1,7] (fun s1 s7 wx=>s1=.int .i64 (d:Int)∧Hid (TapeI T wx)∧Hid (Oth T w1 wx))
 case first =>
  by_cases hA:0<d∧c=0
  ·obtain ⟨hd0,rfl⟩:=hA
   have g1:decide ((d:Int)>0)=true:=by rw [decide_eq_true_eq];omega
   have hdw:IntKind.i64.wrap ((d:Int)-1)=((d-1:Nat):Int):=by rw [IntWalk.i64_in _ (by omega)];omega
   have hvw:IntKind.i64.wrap ((vars:Int)+1)=((vars+1:Nat):Int):=by rw [IntWalk.i64_in _ (by omega)];omega
   go_wp2_with fail
   refine (IHD.out hd0 T (vars+1) w1 (by omega) T1.out).mono ?_
   rintro e w2 ⟨⟨t2,v2,rfl,hv2,hzz,hm2⟩,T2,o2⟩
   obtain ⟨k2,n2,p2,ts2,ht2⟩:=Lfc.Raw.ex t2
   rw [ht2] at hv2
   obtain ⟨A2,c2,rfl,hp2⟩:=hv2.openT
   obtain ⟨w3,hw3⟩:∃w3,w2.alloc (.cells #[.int .i64 k2,S n2,.int .i64 p2,.slice A2 ts2.length c2] 51)=w3:=⟨_,rfl⟩
   have b3:=zG hw3
   have q3:=zQ hw3
   obtain ⟨s1,s2,s3,s4,g1',g2,g3,g4,⟨p0,p1,p2',p3⟩,⟨f0,f1,f2,f3⟩,hq,HZ⟩:=made_lam (P:=2 ^ (d+1)) hTl (OA.out.trans O1.out) (by omega) o2 b3 q3 (by rw [ht2];exact hp2) T2 hzz hm2 (O1.out.heap QA.out (by omega)) HPW.out.1
   have HQ:=zH hq
   clear hq hp2 hv2 T2 o2 b3 q3 hzz hm2 ht2
   go_wp2_with fail
   refine bodyPost_ret (results_term rfl _ _ _ _ _ _ _ rfl HQ.out) rfl ?_
   exact HZ.out
  by_cases hB:0<d∧c<4
  ·obtain ⟨hd0,hc4⟩:=hB
   have g1:decide ((d:Int)>0)=true:=by rw [decide_eq_true_eq];omega
   have g2:((c:Int) == 0)=false:=by simp;omega
   have g3:decide ((c:Int)<4)=true:=by rw [decide_eq_true_eq];omega
   have hdw:IntKind.i64.wrap ((d:Int)-1)=((d-1:Nat):Int):=by rw [IntWalk.i64_in _ (by omega)];omega
   clear hA
   obtain ⟨w2,hw2⟩:∃w2,w1.alloc (.cells #[.string ⟨#[115]⟩,.string ⟨#[99]⟩] 9)=w2:=⟨_,rfl⟩
   have b2:=zG hw2
   have SCN:Hid (∀r,r<2→w2.cell? ⟨w1.heap.size,r,none⟩=some (S (scName r))):=zH (fun r hr=>by rw [←hw2];exact sc_cell w1 r hr)
   have hs2:w1.heap.size<w2.heap.size:=by rw [←hw2];simp
   have T2:=zH (T1.out.below b2)
   have O2:=zH (O1.out.trans (Oth.of_below b2))
   clear b2
   go_wp2_with fail
   refine (tapeI_next T 2 w2 (by omega) (by omega) T2.out).mono ?_
   rintro e w3 ⟨⟨r1,hr1,rfl⟩,T3',o3'⟩
   have hs3:=o3'.size
   have ys:=(o3'.cell (p:=⟨w1.heap.size,r1,none⟩) (by simp only;omega) (by simp only;omega)).trans (SCN.out r1 hr1)
   have hnn:=scName_len r1
   obtain ⟨w4,hw4⟩:∃w4,w3.alloc (.cells #[.int .i64 4,S (scName r1),.int .i64 0,.slice none 0 0] 51)=w4:=⟨_,rfl⟩
   have b4:=zG hw4
   have q4:=zQ hw4
   have T4:=zH (T3'.below b4)
   have O3:=zH (O2.out.trans o3')
   have B4:=zH b4
   have Q4:=zH q4
   have H4:=zH hw4
   have hi1:(0:Int)≤(r1:Int):=by omega
   have hi2:(r1:Int)<2:=by omega
   clear b4 q4 hw4 hw2 T3' o3' T2 SCN
   go_upto_region 6 with fail
   rw [H4.out]
   clear H4 ys
   go_wp2_with fail
   refine (tapeI_next T 2 w4 (by omega) (by omega) T4.out).mono ?_
   rintro e w5 ⟨⟨r2,hr2,rfl⟩,T5',o5'⟩
   have hw5:IntKind.i64.wrap (1+(r2:Int))=((r2+1:Nat):Int):=by rw [IntWalk.i64_in _ (by omega)];omega
   have I0:Hid (MkT wa T w3.heap.size (w3.heap.size+1) PP 4 (scName r1) 0 [] none 0 [] w5):=zH (MkT.start O3.out rfl ((Oth.of_below B4.out).trans o5') (o5'.heap Q4.out (by omega)) T5')
   obtain ⟨N,hN⟩:∃N,r2+1=N:=⟨_,rfl⟩
   rw [hN] at hw5
   have hN2:N≤2:=by omega
   clear T5' o5' hN
   go_upto_block 1 with fail
   go_wp2_with fail
   go_loopw [9] (fun i wr=>∃ (j:Nat) (os:List Lfc.Raw) (A:Option Addr) (c:Nat) (xs:List Value),j+os.length=N∧i=.int .i64 (j:Int)∧Hid (MkT wa T w3.heap.size (w3.heap.size+1) PP 4 (scName r1) 0 os A c xs wr)) (fun i _=>(intOf i).toNat)
   case atStart=>exact ⟨N,[],none,0,[],by simp,rfl,I0⟩
   clear I0
   obtain ⟨j,os,A,cc,xs,hjn,rfl,HI⟩:=hrel
   have hsb:=HI.out.size
   by_cases hj:j=0
   ·subst hj
    have HR:=zH HI.out.r
    have hl:os.length≤2:=by omega
    obtain ⟨u0,u1,u2,u3⟩:=cells4t HI.out.r
    obtain ⟨s1,s2,s3,s4,g1,g2,g3,g4,⟨p0,p1,p2,p3⟩,⟨f0,f1,f2,f3⟩,hq,HZ⟩:=HI.out.done (P:=2 ^ (d+1)) hTl OA.out QA.out (by omega) (Nat.lt_succ_self _) (by omega) (scName_len r1) hl HPW.out.1 HPW.out.2 (scName_head r1 _)
    have HQ:=zH hq
    clear hq HI hl hjn
    go_wp2_with fail
    refine bodyPost_ret (results_term rfl _ _ _ _ _ _ _ rfl HQ.out) rfl ?_
    exact HZ.out
   have hj1:decide ((j:Int)>0)=true:=by rw [decide_eq_true_eq];omega
   have hjw:IntKind.i64.wrap ((j:Int)-1)=((j-1:Nat):Int):=by rw [IntWalk.i64_in _ (by omega)];omega
   have TX:=zH HI.out.tape
   have HOWN:=zH HI.out.own
   have HR:=zH HI.out.r
   have HH:=zH HI.out
   have hbx:=HI.out.size
   have HJN:=zH hjn
   have hlo:os.length≤2:=by omega
   obtain ⟨lo,hlo2⟩:∃lo,os.length=lo:=⟨_,rfl⟩
   have hol:=zH hlo2
   rw [hlo2] at HR HOWN hlo
   have yx:wr.cell? ⟨w3.heap.size,3,none⟩=some (.slice A lo cc):=zC HR.out 3
   have hlm:lo+1≤maxLen:=by unfold maxLen;omega
   have hl56:(lo+1)*56≤140737488355328:=by omega
   have hTr:T<w3.heap.size:=by omega
   have hrT:w3.heap.size≠T:=by omega
   have hTow:(Value.slice A lo cc).ownBlock=some T→False:=fun e=>by have:=(HOWN.out.lt _ e).1;omega
   have hwa3:wa.heap.size≤w3.heap.size:=by omega
   clear HI hlo2 hjn
   go_upto_region 9 with fail
   go_region_law (first
    | (go_simp;go_at_call 28;refine (IHD.out hd0 T vars _ (by omega) (TX.out.below (zB _ _).drew)).mono ?_;rintro e w9 ⟨⟨t9,v9,rfl,hv9,hz9,hm9⟩,T9,o9⟩;obtain ⟨k9,n9,p9,ts9,ht9⟩:=Lfc.Raw.ex t9;rw [ht9] at hv9;obtain ⟨A9,c9,rfl,hp9⟩:=hv9.openT;have q9:=o9.heap HR.out hrT;have y9:w9.cell? ⟨w3.heap.size,3,none⟩=some (.slice A lo cc):=zC q9 3;have y9a:∀o,(w9.alloc o).cell? ⟨w3.heap.size,3,none⟩=some (.slice A lo cc):=fun o=>zC ((zA _ _ _ (zL q9)).trans q9) 3;have hown9:=HOWN.out.drew.kept o9 (Or.inr hTow);have hs9':w3.heap.size+1≤w9.heap.size:=Nat.le_trans hbx o9.size)
    | (refine step_append_own_at _ (by rfl) _ _ 27 (by rfl) (w3.heap.size+1) 51 i0 (.agg #[.int .i64 0,S [],.int .i64 0,.slice none 0 0]) 4 56 Tryz.underlying27 hi hz0 hz1 hz2 rfl (by decide) _ _ _ (by rfl) (hown9.alloc _) ⟨w9.heap.size,0,none⟩ 1 1 [.int .i64 k9,S n9,.int .i64 p9,.slice A9 ts9.length c9] (by rfl) (by rfl) (fun j u h=>ocells_new w9 _ rfl [.int .i64 k9,S n9,.int .i64 p9,.slice A9 ts9.length c9] _ j u h) oneCellT hlm hl56 (oalloc_le hs9') ?_;intro v' w10 hown10 hg10 hloc10;obtain ⟨A10,c10,rfl⟩:=oform hown10;obtain ⟨hr10,hfin⟩:=HH.out.step hTr (Nat.lt_succ_self _) hwa3 o9 T9 (by rw [ht9];exact hp9) hz9 hm9 (by rw [hol.out];exact hown10) (by rw [hol.out];exact hg10) (by rw [hol.out];exact oalloc_loc hloc10);rw [hol.out] at hr10 hfin;have y10:=(zC hr10 3:w10.cell? ⟨w3.heap.size,3,none⟩=some (.slice A lo cc));have f10:=zF hr10 3))
   all_goals
    have HNX:Hid (MkT wa T w3.heap.size (w3.heap.size+1) PP 4 (scName r1) 0 (os++[t9]) A10 c10 (xs++[.int .i64 k9,S n9,.int .i64 p9,.slice A9 ts9.length c9]) (w10.setCell ⟨w3.heap.size,3,none⟩ (.slice A10 (lo+1) c10))):=zH (hfin A10 c10 rfl)
    have HJ2:Hid (j-1+(os++[t9]).length=N):=zH (by
     have:=HJN.out
     rw [List.length_append]
     simp only [List.length_singleton]
     omega)
    clear hfin hp9 o9 hown9 hown10 hg10 ht9 hz9 hm9 T9
    go_wp2_with fail
    go_roundw
    case rel=>exact ⟨j-1,os++[t9],A10,c10,_,HJ2.out,rfl,HNX⟩
    case measure=>simp [intOf];omega
  have hvv:vars≤50:=by omega
  by_cases hc4:c=4
  ·subst hc4
   have HX:Hid (∀wx,TapeI T wx→Oth T w1 wx→TapeI T wx∧Oth T w1 wx):=zH (fun _ h h'=>⟨h,h'⟩)
   have hdd:(d=0∧decide ((d:Int)>0)=false)∨(0<d∧decide ((d:Int)>0)=true):=by
    rw [decide_eq_false_iff_not,decide_eq_true_eq];omega
   clear hA hB
   rcases hdd with ⟨hd0,g1⟩ | ⟨hd0,g1⟩
   all_goals
    go_wp2_with fail
    refine (tapeI_next T 3 w1 (by omega) (by omega) T1.out).mono ?_
    rintro e w2 ⟨⟨r,hr,rfl⟩,T2,o2⟩
    by_cases hr0:r=0
    ·subst hr0
     obtain ⟨s1,s2,s3,s4,g1',g2,g3,g4,⟨p0,p1,p2',p3⟩,⟨f0,f1,f2,f3⟩,hq,HZ⟩:=made_leaf (P:=2 ^ (d+1)) (k:=4) (p:=0) (nm:=[122]) hTl ((OA.out.trans O1.out).trans o2) T2 (o2.heap (O1.out.heap QA.out (by omega)) (by omega)) (by omega) (by simp) (by have:=HPW.out;omega) (by decide)
     have HQ:=zH hq
     clear hq T2 o2
     go_wp2_with fail
     refine bodyPost_ret (results_term rfl _ _ _ _ _ _ _ rfl HQ.out) rfl ?_
     exact HZ.out
    have hr1:((r:Int) == 0)=false:=by simp;omega
    have HM:=zH (And.intro T2 o2)
    clear T2 o2 hr0
    go_wp2_with fail
    go_meet
    exact ⟨by first | rfl | (rw [hd0];rfl),zH HM.out.1,zH HM.out.2⟩
  have g4:((c:Int) == 4)=false:=by simp;omega
  by_cases hd0:d=0
  ·have g1:decide ((d:Int)>0)=false:=by rw [decide_eq_false_iff_not];omega
   clear hA hB hc4
   go_wp2_with fail
   go_meet
   exact ⟨by first | rfl | (rw [hd0];rfl),T1,zH (Oth.refl _ _)⟩
  have g1:decide ((d:Int)>0)=true:=by rw [decide_eq_true_eq];omega
  obtain rfl:c=5:=by omega
  clear hA hB hc4
  go_wp2_with fail
  go_meet
  exact ⟨by first | rfl | (rw [hd0];rfl),T1,zH (Oth.refl _ _)⟩
 obtain ⟨rfl,T2,O2'⟩:=hcut
 have O2:=zH (O1.out.trans O2'.out)
 have hsc:=O2'.out.size
 have hdw:0<d→IntKind.i64.wrap ((d:Int)-1)=((d-1:Nat):Int):=fun h=>by rw [IntWalk.i64_in _ (by omega)];omega
 have HDW:=zH hdw
 have hvw:IntKind.i64.wrap ((vars:Int)+1)=((vars+1:Nat):Int):=by rw [IntWalk.i64_in _ (by omega)];omega
 clear hdw O2' O1 T1
 go_wp2_with fail
 refine (tapeI_next T (vars+1) wc (by omega) (by omega) T2.out).mono ?_
 rintro e w3 ⟨⟨r1,hr1,rfl⟩,T3',o3'⟩
 have hs3:=o3'.size
 obtain ⟨w4,hw4⟩:∃w4,w3.alloc (.cells #[.int .i64 5,S [],.int .i64 (r1:Int),.slice none 0 0] 51)=w4:=⟨_,rfl⟩
 have b4:=zG hw4
 have q4:=zQ hw4
 have T4:=zH (T3'.below b4)
 have O3:=zH (O2.out.trans o3')
 have B4:=zH b4
 have Q4:=zH q4
 have H4:=zH hw4
 clear b4 q4 hw4 T3' o3' T2
 go_upto_region 14 with fail
 rw [H4.out]
 clear H4
 go_wp2_with fail
 refine (tapeI_next T 2 w4 (by omega) (by omega) T4.out).mono ?_
 rintro e w5 ⟨⟨N,hr2,rfl⟩,T5',o5'⟩
 have I0:Hid (MkT wa T w3.heap.size (w3.heap.size+1) PP 5 [] (r1:Int) [] none 0 [] w5):=zH (MkT.start O3.out rfl ((Oth.of_below B4.out).trans o5') (o5'.heap Q4.out (by omega)) T5')
 have hN2:N≤2:=by omega
 clear T5' o5'
 go_wp2_with fail
 go_loopw [11] (fun i wr=>∃ (j:Nat) (os:List Lfc.Raw) (A:Option Addr) (c:Nat) (xs:List Value),j+os.length=N∧i=.int .i64 (j:Int)∧Hid (MkT wa T w3.heap.size (w3.heap.size+1) PP 5 [] (r1:Int) os A c xs wr)) (fun i _=>(intOf i).toNat)
 case atStart=>exact ⟨N,[],none,0,[],by simp,rfl,I0⟩
 clear I0
 obtain ⟨j,os,A,cc,xs,hjn,rfl,HI⟩:=hrel
 have hsb:=HI.out.size
 by_cases hj:j=0∨d=0
 ·rcases (show j=0∨(0<j∧d=0) by omega) with rfl | ⟨hj0,hd0⟩
  ·clear hj
   have HR:=zH HI.out.r
   have hl:os.length≤2:=by omega
   obtain ⟨u0,u1,u2,u3⟩:=cells4t HI.out.r
   obtain ⟨s1,s2,s3,s4,g1,g2,g3,g4,⟨p0,p1,p2,p3⟩,⟨f0,f1,f2,f3⟩,hq,HZ⟩:=HI.out.done (P:=2 ^ (d+1)) hTl OA.out QA.out (by omega) (Nat.lt_succ_self _) (by omega) (by simp) hl HPW.out.1 HPW.out.2 (by simp [Lfc.headB])
   have HQ:=zH hq
   clear hq HI hl hjn
   go_wp2_with fail
   refine bodyPost_ret (results_term rfl _ _ _ _ _ _ _ rfl HQ.out) rfl ?_
   exact HZ.out
  have hj1:decide ((j:Int)>0)=true:=by rw [decide_eq_true_eq];omega
  have hd1:decide ((d:Int)>0)=false:=by rw [decide_eq_false_iff_not];omega
  clear hj
  have HR:=zH HI.out.r
  have hl:os.length≤2:=by omega
  obtain ⟨u0,u1,u2,u3⟩:=cells4t HI.out.r
  obtain ⟨s1,s2,s3,s4,g1,g2,g3,g4,⟨p0,p1,p2,p3⟩,⟨f0,f1,f2,f3⟩,hq,HZ⟩:=HI.out.done (P:=2 ^ (d+1)) hTl OA.out QA.out (by omega) (Nat.lt_succ_self _) (by omega) (by simp) hl HPW.out.1 HPW.out.2 (by simp [Lfc.headB])
  have HQ:=zH hq
  clear hq HI hl hjn
  go_wp2_with fail
  refine bodyPost_ret (results_term rfl _ _ _ _ _ _ _ rfl HQ.out) rfl ?_
  exact HZ.out
 have hd0:0<d:=by omega
 have hj1:decide ((j:Int)>0)=true:=by rw [decide_eq_true_eq];omega
 have hd1:decide ((d:Int)>0)=true:=by rw [decide_eq_true_eq];omega
 have hdw:=HDW.out hd0
 have hjw:IntKind.i64.wrap ((j:Int)-1)=((j-1:Nat):Int):=by rw [IntWalk.i64_in _ (by omega)];omega
 have TX:=zH HI.out.tape
 have HOWN:=zH HI.out.own
 have HR:=zH HI.out.r
 have HH:=zH HI.out
 have hbx:=HI.out.size
 have HJN:=zH hjn
 have hlo:os.length≤2:=by omega
 obtain ⟨lo,hlo2⟩:∃lo,os.length=lo:=⟨_,rfl⟩
 have hol:=zH hlo2
 rw [hlo2] at HR HOWN hlo
 have yx:wr.cell? ⟨w3.heap.size,3,none⟩=some (.slice A lo cc):=zC HR.out 3
 have hlm:lo+1≤maxLen:=by unfold maxLen;omega
 have hl56:(lo+1)*56≤140737488355328:=by omega
 have hTr:T<w3.heap.size:=by omega
 have hrT:w3.heap.size≠T:=by omega
 have hTow:(Value.slice A lo cc).ownBlock=some T→False:=fun e=>by have:=(HOWN.out.lt _ e).1;omega
 have hwa3:wa.heap.size≤w3.heap.size:=by omega
 clear HI hlo2 hjn
 go_upto_region 17 with fail
 go_region_law (first
  | (go_simp;go_at_call 28;refine (IHD.out hd0 T vars _ (by omega) (TX.out.below (zB _ _).drew)).mono ?_;rintro e w9 ⟨⟨t9,v9,rfl,hv9,hz9,hm9⟩,T9,o9⟩;obtain ⟨k9,n9,p9,ts9,ht9⟩:=Lfc.Raw.ex t9;rw [ht9] at hv9;obtain ⟨A9,c9,rfl,hp9⟩:=hv9.openT;have q9:=o9.heap HR.out hrT;have y9:w9.cell? ⟨w3.heap.size,3,none⟩=some (.slice A lo cc):=zC q9 3;have y9a:∀o,(w9.alloc o).cell? ⟨w3.heap.size,3,none⟩=some (.slice A lo cc):=fun o=>zC ((zA _ _ _ (zL q9)).trans q9) 3;have hown9:=HOWN.out.drew.kept o9 (Or.inr hTow);have hs9':w3.heap.size+1≤w9.heap.size:=Nat.le_trans hbx o9.size)
  | (refine step_append_own_at _ (by rfl) _ _ 27 (by rfl) (w3.heap.size+1) 51 i0 (.agg #[.int .i64 0,S [],.int .i64 0,.slice none 0 0]) 4 56 Tryz.underlying27 hi hz0 hz1 hz2 rfl (by decide) _ _ _ (by rfl) (hown9.alloc _) ⟨w9.heap.size,0,none⟩ 1 1 [.int .i64 k9,S n9,.int .i64 p9,.slice A9 ts9.length c9] (by rfl) (by rfl) (fun j u h=>ocells_new w9 _ rfl [.int .i64 k9,S n9,.int .i64 p9,.slice A9 ts9.length c9] _ j u h) oneCellT hlm hl56 (oalloc_le hs9') ?_;intro v' w10 hown10 hg10 hloc10;obtain ⟨A10,c10,rfl⟩:=oform hown10;obtain ⟨hr10,hfin⟩:=HH.out.step hTr (Nat.lt_succ_self _) hwa3 o9 T9 (by rw [ht9];exact hp9) hz9 hm9 (by rw [hol.out];exact hown10) (by rw [hol.out];exact hg10) (by rw [hol.out];exact oalloc_loc hloc10);rw [hol.out] at hr10 hfin;have y10:=(zC hr10 3:w10.cell? ⟨w3.heap.size,3,none⟩=some (.slice A lo cc));have f10:=zF hr10 3))
 all_goals
  have HNX:Hid (MkT wa T w3.heap.size (w3.heap.size+1) PP 5 [] (r1:Int) (os++[t9]) A10 c10 (xs++[.int .i64 k9,S n9,.int .i64 p9,.slice A9 ts9.length c9]) (w10.setCell ⟨w3.heap.size,3,none⟩ (.slice A10 (lo+1) c10))):=zH (hfin A10 c10 rfl)
  have HJ2:Hid (j-1+(os++[t9]).length=N):=zH (by
   have:=HJN.out
   rw [List.length_append]
   simp only [List.length_singleton]
   omega)
  clear hfin hp9 o9 hown9 hown10 hg10 ht9 hz9 hm9 T9
  go_wp2_with fail
  go_roundw
  case rel=>exact ⟨j-1,os++[t9],A10,c10,_,HJ2.out,rfl,HNX⟩
  case measure=>simp [intOf];omega
end Go.Proofs.YtadjpadieljjlaaGreat
