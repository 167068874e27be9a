/- Parts of the proof that no input makes the law false: OcChn. -/
import Derived.BigQuiet
import Derived.Deep.LoopGhost
import Derived.Test.YtadjpadieljjlaaGreatIvAK
set_option linter.unusedVariables false
set_option linter.unusedSimpArgs false
set_option maxRecDepth 100000
set_option maxHeartbeats 32000000
namespace Go.Proofs.YtadjpadieljjlaaGreat
open Go.RowKit Go.Maps
def ChnAns (ks:List Int) (fs:List Lfc.Fact) (Mb:Nat) (q:Nat→Prop) (w:World) (r:Prop) (e:Ending) (w':World):Prop :=
 (∃A n c b,e=.returned (.tuple #[.slice A n c,.bool b])∧LkO q w' A n c∧n≤4*fs.length+1∧(b=true↔r))∧Cache ks fs Mb q w'∧Oth Mb w w'
def EdX (wr:World) (S0:Int) (s:Value) (wx:World):Prop:=∃g A n c,s=.pointer (some ⟨g,0,none⟩)∧wx.heap[g]?=some (.cells #[.int .i64 S0,.slice A n c] 183 (0,0))∧n≤1∧LkO (fun b=>wr.heap.size≤b∧b≠g) wx A n c∧Below wr.heap.size wr wx∧wr.heap.size≤g
theorem QRow.shape {W:World} {base:Nat} {v:Value} {zs:List (Nat × Int)} (h:QRow W base v zs):∃A c,v=.slice A zs.length c:=by
 rcases h with ⟨rfl,rfl⟩ | ⟨g,o,cap,cur,rfl,_⟩
 ·exact ⟨_,_,rfl⟩
 exact ⟨_,_,rfl⟩
def Made3 (nn:Nat) (w4:World) (k:Nat) (wr:World):Prop:=Below w4.heap.size w4 wr∧∃ (cur:Array Value) (g:Nat→Nat),cur.size=3∧wr.heap[w4.heap.size]?=some (.cells cur 191 (0,0)) ∧
 (∀j,j<k→cur[j]?=some (.slice (some ⟨g j,0,none⟩) nn nn)∧w4.heap.size<g j∧g j<wr.heap.size∧wr.heap[g j]?=some (.cells (madeCells (#[.bool false,.slice none 0 0]:Array Value) (nn*2)) 194 (0,0)))∧∀i j,i<j→j<k→g i<g j
theorem Made3.next {nn k:Nat} {w4 wr:World} (h:Made3 nn w4 k wr) (hk:k<3):∃wa v,wr.alloc (.cells (madeCells (#[.bool false,.slice none 0 0]:Array Value) (nn*2)) 194)=wa∧wa.cell? ⟨w4.heap.size,k,none⟩=some v∧wa.frozen? ⟨w4.heap.size,k,none⟩=false∧Hid (Made3 nn w4 (k+1) (wa.setCell ⟨w4.heap.size,k,none⟩ (.slice (some ⟨wr.heap.size,0,none⟩) nn nn))):=by
 obtain ⟨hb,cur,g,hs,hc,hg,hlt⟩:=h
 have hlr:=zL hc
 obtain ⟨wa,hwa⟩:∃wa,wr.alloc (.cells (madeCells (#[.bool false,.slice none 0 0]:Array Value) (nn*2)) 194)=wa:=⟨_,rfl⟩
 have ba:=zG hwa
 have qa:=zQ hwa
 have la:=zL qa
 have hca:=(ba.block _ hlr).trans hc
 have ho:Oth w4.heap.size wa (wa.setCell ⟨w4.heap.size,k,none⟩ (.slice (some ⟨wr.heap.size,0,none⟩) nn nn)):=Oth.set _ _
 refine ⟨wa,_,hwa,(zC hca k).trans (Array.getElem?_eq_getElem (by omega)),zF hca k,zH ⟨Oth.below (hb.trans (ba.mono hb.size)) ho (zN _) (Nat.le_trans hb.size ba.size),cur.set! k (.slice (some ⟨wr.heap.size,0,none⟩) nn nn),fun j=>if j=k then wr.heap.size else g j,by simp [hs],by simp [World.setCell,Array.getElem?_modify,hca],fun j hj=>?_,fun i j hij hj=>?_⟩⟩
 ·have hsz:=ho.size
  by_cases e:j=k
  ·subst e
   simp only [↓reduceIte]
   refine ⟨?_,hlr,by omega,(ho.block _ la (fun e=>by have:=zO e;omega)).trans qa⟩
   simp only [Array.set!_eq_setIfInBounds]
   rw [Array.getElem?_setIfInBounds,if_pos rfl,if_pos (by omega)]
  simp only [if_neg e]
  obtain ⟨h1,h2,h3,h4⟩:=hg j (by omega)
  refine ⟨?_,h2,by omega,(ho.block _ (by omega) (fun e=>by have:=zO e;omega)).trans ((ba.block _ h3).trans h4)⟩
  simp only [Array.set!_eq_setIfInBounds]
  rw [Array.getElem?_setIfInBounds,if_neg (Ne.symm e)]
  exact h1
 have hi:i≠k:=by omega
 simp only [if_neg hi]
 by_cases e:j=k
 ·simp only [if_pos e]
  exact (hg i (by omega)).2.2.1
 simp only [if_neg e]
 exact hlt i j hij (by omega)
theorem cur3 {cur:Array Value} {v0 v1 v2:Value} (hs:cur.size=3) (h0:cur[0]?=some v0) (h1:cur[1]?=some v1) (h2:cur[2]?=some v2):cur=#[v0,v1,v2]:=by
 apply Array.ext (by simp [hs])
 intro i hi hi2
 have h3:i<3:=by omega
 match i,h3 with
 | 0,_=>rw [Array.getElem?_eq_getElem hi] at h0;exact zO h0
 | 1,_=>rw [Array.getElem?_eq_getElem hi] at h1;exact zO h1
 | 2,_=>rw [Array.getElem?_eq_getElem hi] at h2;exact zO h2
theorem oChain_any (q:Nat→Prop) (Bx Mb:Nat) (F A0 L R:Option Addr) (f0 c0 cl cr:Nat) (fs:List Lfc.Fact) (ks:List Int) (ts us:List Lfc.Raw) (must:Int) (t u:Lfc.Raw) (vt vu:Value) (w:World) (hks:ks.length≤1000000) (hfl:fs.length≤400) (hfz:∀f∈fs,f.l.size≤1000000∧f.r.size≤1000000) (ht:t.size≤1000000) (hu:u.size≤1000000)
  (hP:PvO w Bx Mb F A0 L R f0 c0 cl cr fs ks ts us) (hC:Cache ks fs Mb q w) (hq:∀b,w.heap.size≤b→q b) (hqM:∀b,q b→b≠Mb) (hv:TreeVP (fun b=>b≠Mb) w t vt) (hv':TreeVP (fun b=>b≠Mb) w u vu) :
  Calls Tryz.prog 161 #[.pointer (some ⟨Bx,0,none⟩),vt,vu,.int .i64 must] w (ChnAns ks fs Mb q w (Lfc.chn ks fs t u must)):=by
 have HV:=zH hv
 have HV':=zH hv'
 obtain ⟨A,c,kd,nm,ps,xs,hT,rfl⟩:∃A c kd nm ps xs,t=.node kd nm ps xs∧vt=.agg #[.int .i64 kd,S nm,.int .i64 ps,.slice A (List.length xs) c]:=by
  obtain ⟨kd,nm,ps,ts⟩:=t
  obtain ⟨A,c,rfl,hc,hA⟩:=hv.toV.open_
  exact ⟨A,c,kd,nm,ps,ts,rfl,rfl⟩
 obtain ⟨A',c',kd',nm',ps',ys,hU,rfl⟩:∃A c kd nm ps xs,u=.node kd nm ps xs∧vu=.agg #[.int .i64 kd,S nm,.int .i64 ps,.slice A (List.length xs) c]:=by
  obtain ⟨kd,nm,ps,ts⟩:=u
  obtain ⟨A,c,rfl,hc,hA⟩:=hv'.toV.open_
  exact ⟨A,c,kd,nm,ps,ts,rfl,rfl⟩
 obtain ⟨w1,hw1⟩:∃w1,w.alloc (.cells #[.int .i64 kd,S nm,.int .i64 ps,.slice A xs.length c] 51)=w1:=⟨_,rfl⟩
 obtain ⟨w2,hw2⟩:∃w2,w1.alloc (.cells #[.int .i64 kd',S nm',.int .i64 ps',.slice A' ys.length c'] 51)=w2:=⟨_,rfl⟩
 have b1:=zG hw1
 have b2:=zG hw2
 have q1:=zQ hw1
 have q2:=zQ hw2
 have l1:=zL q1
 have l2:=zL q2
 have b02:Below w.heap.size w w2:=b1.trans (b2.mono (by omega))
 have B02:=zH b02
 have s02:w.heap.size≤w2.heap.size:=by omega
 have Q1:=zH ((b2.block _ l1).trans q1)
 have Q2:=zH q2
 obtain ⟨y0,y1,y2,y3⟩:=cells4t Q1.out
 obtain ⟨z0,z1,z2,z3⟩:=cells4t Q2.out
 have HP:=zH hP
 have HC:=zH hC
 have HQ:=zH hq
 have HQM:=zH hqM
 have hMb:=hC.lt
 have hBx:=hP.lt
 have x0:=(b02.cell (p:=⟨Bx,0,none⟩) hBx).trans hP.facts
 have UP:Hid (∀W t' u' vt' vu',Oth Mb w W→t'.size≤1000000→u'.size≤1000000→TreeVP (fun b=>b≠Mb) W t' vt'→TreeVP (fun b=>b≠Mb) W u' vu'→Calls Tryz.prog 163 #[.pointer (some ⟨Bx,0,none⟩),vt',vu'] W (fun e W'=>∃A n c,e=.returned (.agg #[.int .i64 (Lfc.upS ks t' u'),.slice A n c])∧n≤1∧LkO (fun b=>W.heap.size≤b) W' A n c∧Below W.heap.size W W')):=zH (fun W t' u' vt' vu' hW ht hu hvt hvu=>(oUp_any Bx ks A0 c0 _ _ vt' vu' W hks ht hu (HP.out.oth hW).ks.toO hvt.toV hvu.toV (HP.out.oth hW).kinds (HP.out.oth hW).lt).mono (fun e W' h=>by
  obtain ⟨v,rfl,⟨A,n,c,rfl,hn,hl⟩,hb⟩:=edV_of_up (q:=fun b=>W.heap.size≤b) hu h (fun b hb=>hb)
  exact ⟨A,n,c,rfl,hn,hl,hb⟩))
 have SD:Hid (∀W k,Oth Mb w W→k<2*fs.length→Calls Tryz.prog 150 #[.pointer (some ⟨Bx,0,none⟩),.int .i64 (k:Int)] W (SideAns (fun b=>b≠Mb) W (Lfc.sd fs k))):=zH (fun W k hW hk=>oSide_any _ Bx k fs _ f0 W (by omega) hk (HP.out.oth hW).fs (HP.out.oth hW).facts (HP.out.oth hW).lt)
 have ST:Hid (∀W i j q',Oth Mb w W→Cache ks fs Mb q' W→(∀b,W.heap.size≤b→q' b)→(∀b,q' b→b≠Mb)→i<2*fs.length→j<2*fs.length→j≠i→Calls Tryz.prog 166 #[.pointer (some ⟨Bx,0,none⟩),.int .i64 (i:Int),.int .i64 (j:Int)] W (StepAns ks fs Mb q' W (Lfc.stp ks fs i j))):=zH (fun W i j q' hW hC' hq' hqM' hi hj hij=>oStep_any q' Bx Mb i j F A0 L R f0 c0 cl cr fs ks ts us W hks hfl hfz (HP.out.oth hW) hC' hq' hqM' hi hj hij)
 have SDZ:Hid (∀k,(Lfc.sd fs k).size≤1000000):=zH (sd_size hfz)
 have HTU:Hid (t.size≤1000000∧u.size≤1000000):=zH ⟨ht,hu⟩
 have CU:=zH (UP.out w2 t u _ _ (Oth.of_below b02) ht hu (HV.out.oth (Oth.of_below b02)) (HV'.out.oth (Oth.of_below b02)))
 obtain ⟨S1,hS1⟩:∃S1,Lfc.upS ks t u=S1:=⟨_,rfl⟩
 rw [hS1] at CU
 have HS1:=zH hS1
 obtain ⟨rr,hrr⟩:∃rr,Lfc.chn ks fs t u must=rr:=⟨_,rfl⟩
 rw [hrr]
 have HRR:=zH hrr
 obtain ⟨fl,hfl0⟩:∃fl,fs.length=fl:=⟨_,rfl⟩
 rw [hfl0] at x0
 have HFL:=zH hfl0
 obtain ⟨nn,hnn⟩:∃nn,2*fl=nn:=⟨_,rfl⟩
 have hnb:nn≤1000:=by omega
 have hwr:IntKind.i64.wrap (2*(fl:Int))=(nn:Int):=by rw [IntWalk.i64_in _ (by omega)];omega
 have HNN:Hid (2*fs.length=nn):=zH (by omega)
 clear hT hU hv hv' b1 b2 q1 q2 b02 hS1 hrr hfl0 hnn hP hC hq hqM hfz
 go_enter Tryz.func161,Tryz.ntmps161
 go_wp2_with fail
 refine CU.out.mono ?_
 rintro e w3 ⟨A3,n3,c3,rfl,hn3,hl3,b3⟩
 clear y0 y1 y2 y3 z0 z1 z2 z3 x0 CU hw1 hw2
 obtain ⟨w4,hw4⟩:∃w4,w3.alloc (.cells #[.int .i64 S1,.slice A3 n3 c3] 183)=w4:=⟨_,rfl⟩
 have b4:=zG hw4
 have q4:=zQ hw4
 have HW4:=zH hw4
 have b24:Below w2.heap.size w2 w4:=b3.trans (b4.mono b3.size)
 have b04:Below w.heap.size w w4:=B02.out.trans (b24.mono s02)
 have B24:=zH b24
 have B04:=zH b04
 obtain ⟨y0,y1⟩:=cells2e q4
 have HL4:=zH (hl3.keep (q':=q) (fun b hb hlt=>b4.block b hlt) b4.size (fun b _ hb=>HQ.out b (Nat.le_trans s02 hb)))
 have s24:=b24.size
 have C4:=zH (HC.out.below b04)
 clear hw4 b3 b4 q4 b24 b04 hl3
 go_upto_region 3 with fail
 rw [HW4.out]
 by_cases hm:must≤S1
 ·have hd1:decide (S1≥must)=true:=by rw [decide_eq_true_eq];exact hm
  have hd2:decide (must≤S1)=true:=by rw [decide_eq_true_eq];exact hm
  have HZ:Hid (ChnAns ks fs Mb q w rr (.returned (.tuple #[.slice A3 n3 c3,.bool true])) w4):=zH ⟨⟨A3,n3,c3,true,rfl,HL4.out,by omega,by rw [←HRR.out];exact ⟨fun _=>.inl (by rw [HS1.out];exact hm),fun _=>rfl⟩⟩,C4.out,Oth.of_below B04.out⟩
  clear hm HL4
  go_wp2_with fail
  refine bodyPost_ret (results_tmp2 rfl _ _ _) rfl ?_
  exact HZ.out
 have hd1:decide (S1≥must)=false:=by rw [decide_eq_false_iff_not];exact hm
 have hd2:decide (must≤S1)=false:=by rw [decide_eq_false_iff_not];exact hm
 have HND:Hid (¬must≤Lfc.upS ks t u):=zH (by rw [HS1.out];exact hm)
 clear hm HL4
 obtain ⟨w5,hw5⟩:∃w5,w4.alloc (.cells #[.slice none 0 0,.slice none 0 0,.slice none 0 0] 191)=w5:=⟨_,rfl⟩
 have b5:=zG hw5
 have q5:=zQ hw5
 have I0:Hid (Made3 nn w4 0 w5):=zH ⟨b5,_,fun _=>0,rfl,q5,fun j hj=>absurd hj (Nat.not_lt_zero _),fun _ j _ hj=>absurd hj (Nat.not_lt_zero _)⟩
 have hmk:=makeReached
 clear b5 q5
 go_wp2_with fail
 go_loopw [40] (fun i wr=>∃k:Nat,k≤3∧i=.int .i64 (k:Int)∧Hid (Made3 nn w4 k wr)) (fun i _=>3-(intOf i).toNat)
 case atStart=>exact ⟨0,by omega,rfl,I0⟩
 clear I0 hw5 y0 y1
 obtain ⟨k,hk,rfl,HI⟩:=hrel
 by_cases hlt:k<3
 ·have hi0:(0:Int)≤(k:Int):=Int.natCast_nonneg _
  have hi1:(k:Int)<3:=by omega
  have hmk2:=hmk wr nn hnb
  obtain ⟨wa,va,hwa,z0,z1,HN⟩:=HI.out.next hlt
  clear HI hmk
  go_wp2_with fail
  go_roundw
  case rel=>exact ⟨k+1,by omega,by go_num,HN⟩
  case measure=>simp [intOf];omega
 obtain rfl:k=3:=by omega
 clear hmk
 obtain ⟨wq,hwq⟩:∃wq,wq=wr:=⟨_,rfl⟩
 subst hwq
 obtain ⟨bq4,cur,g,hcs,hcur,hg,hgl⟩:=HI.out
 obtain ⟨c_0,a0,e0,d0⟩:=hg 0 (by omega)
 obtain ⟨c_1,a1,e1,d1⟩:=hg 1 (by omega)
 obtain ⟨c_2,a2,e2,d2⟩:=hg 2 (by omega)
 have g01:=hgl 0 1 (by omega) (by omega)
 have g12:=hgl 1 2 (by omega) (by omega)
 rw [cur3 hcs c_0 c_1 c_2] at hcur
 generalize g 0=g0 at *
 generalize g 1=g1 at *
 generalize g 2=g2 at *
 have lq:=zL hcur
 obtain ⟨w6,hw6⟩:∃w6,wq.alloc (.cells #[.slice none 0 0] 192)=w6:=⟨_,rfl⟩
 have b6:=zG hw6
 have q6:=zQ hw6
 have l6:=zL q6
 have bS:Below w.heap.size w w6:=B04.out.trans ((bq4.trans (b6.mono bq4.size)).mono (Nat.le_trans s02 s24))
 have HOK:Hid (Spot.Ok ⟨w4.heap.size,g0,g1,g2,wq.heap.size,nn,Mb⟩ q w6):=zH ⟨⟨by simp only;omega,by simp only;omega,by simp only;omega,by simp only;omega,by simp only;omega⟩,⟨by simp only;omega,by simp only;omega,by simp only;omega,by simp only;omega,by simp only;omega,by simp only;omega⟩,⟨by simp only;omega,by simp only;omega,by simp only;omega,by simp only;omega⟩,HQM.out,fun b hb=>HQ.out b (by have:=bS.size;omega)⟩
 have HS6:Hid (ChSt ks fs ⟨w4.heap.size,g0,g1,g2,wq.heap.size,nn,Mb⟩ q w6 (fun _ _=>false) [] (2*nn) (.slice none 0 0) w6):=zH (ChSt.init HOK.out ((b6.block _ lq).trans hcur) ((b6.block _ e1).trans d1) ((b6.block _ e2).trans d2) q6 (HC.out.keep (row:=none) ⟨bS.os,bS.tape,bS.output,bS.size,fun k hk _=>bS.block k hk⟩ (fun e=>by cases e) (fun _ _ _ e=>by cases e) (fun b hb hq=>⟨hq,⟨by simp only;omega,by simp only;omega,by simp only;omega,by simp only;omega⟩,by simp [Value.ownBlock]⟩)))
 have TOT:Hid (∀R zs U v W,ChSt ks fs ⟨w4.heap.size,g0,g1,g2,wq.heap.size,nn,Mb⟩ q w6 R zs U v W→Oth Mb w W∧W.heap[w.heap.size]?=some (.cells #[.int .i64 kd,S nm,.int .i64 ps,.slice A xs.length c] 51 (0,0))∧W.heap[w1.heap.size]?=some (.cells #[.int .i64 kd',S nm',.int .i64 ps',.slice A' ys.length c'] 51 (0,0))∧w6.heap.size≤W.heap.size):=zH (fun R zs U v W h=>by
  have hf:=h.frame
  have b26:Below w2.heap.size w2 w6:=B24.out.trans ((bq4.trans (b6.mono bq4.size)).mono s24)
  refine ⟨⟨hf.os.trans bS.os,hf.tape.trans bS.tape,hf.output.trans bS.output,Nat.le_trans bS.size hf.size,fun b hb hn=>(hf.block b (Nat.lt_of_lt_of_le hb bS.size) ⟨fun e=>hn (by rw [e]),by simp only;omega,by simp only;omega,by simp only;omega,by simp only;omega⟩).trans (bS.block b hb)⟩,?_,?_,hf.size⟩
  ·exact (hf.block _ (by omega) ⟨by simp only;omega,by simp only;omega,by simp only;omega,by simp only;omega,by simp only;omega⟩).trans ((b26.block _ (by omega)).trans Q1.out)
  exact (hf.block _ (by omega) ⟨by simp only;omega,by simp only;omega,by simp only;omega,by simp only;omega,by simp only;omega⟩).trans ((b26.block _ l2).trans Q2.out))
 have H26:Hid (w2.heap.size≤w6.heap.size):=zH (by have:=bq4.size;omega)
 have HI0:Hid (∀n,n=nn→Lfc.SInv ks fs t u must (fun _ _=>false) [] 0 none):=zH (fun _ _=>Lfc.SInv.init)
 clear hcur hg hgl c_0 c_1 c_2 a0 a1 a2 e0 e1 e2 d0 d1 d2 g01 g12 hcs bq4 b6 q6 bS lq HI HC
 go_wp2_with fail
 go_loopw [50] (fun i wr=>∃ (k:Nat) (R:Nat→Int→Bool) (zs:List (Nat × Int)) (U:Nat) (v:Value),k≤nn∧i=.int .i64 (k:Int)∧Hid (ChSt ks fs ⟨w4.heap.size,g0,g1,g2,wq.heap.size,nn,Mb⟩ q w6 R zs U v wr∧Lfc.SInv ks fs t u must R zs k none∧zs.length+U≤2*nn)) (fun i _=>nn-(intOf i).toNat)
 case atStart=>exact ⟨0,_,_,_,_,by omega,rfl,zH ⟨HS6.out,HI0.out nn rfl,by simp⟩⟩
 clear HS6 HI0 hw6
 obtain ⟨k,R',zs,U,v,hk,rfl,HI⟩:=hrel
 by_cases hlt:k<nn
 ·have hi0:(0:Int)≤(k:Int):=Int.natCast_nonneg _
  have hi1:(k:Int)<(nn:Int):=by omega
  obtain ⟨hot,hql,hqr,hsz⟩:=TOT.out _ _ _ _ _ HI.out.1
  have hk2:k<2*fs.length:=by rw [HNN.out];exact hlt
  obtain ⟨S0,hS0⟩:∃S0,Lfc.upS ks t (Lfc.sd fs k)=S0:=⟨_,rfl⟩
  have HS0:=zH hS0
  have hlw:w.heap.size<wr.heap.size:=by have:=H26.out;omega
  have SC:Hid (∀W,Below wr.heap.size wr W→W.cell? ⟨w.heap.size,0,none⟩=some (.int .i64 kd)∧W.cell? ⟨w.heap.size,1,none⟩=some (S nm)∧W.cell? ⟨w.heap.size,2,none⟩=some (.int .i64 ps)∧W.cell? ⟨w.heap.size,3,none⟩=some (.slice A xs.length c)):=zH (fun W hw=>cells4t ((hw.block _ hlw).trans hql))
  have SDk:Hid (∀W,Below wr.heap.size wr W→Calls Tryz.prog 150 #[.pointer (some ⟨Bx,0,none⟩),.int .i64 (k:Int)] W (SideAns (fun b=>b≠Mb) W (Lfc.sd fs k))):=zH (fun W hw=>SD.out W k (hot.trans (Oth.of_below hw)) hk2)
  have UPk:Hid (∀W vs,Below wr.heap.size wr W→TreeVP (fun b=>b≠Mb) W (Lfc.sd fs k) vs→Calls Tryz.prog 163 #[.pointer (some ⟨Bx,0,none⟩),.agg #[.int .i64 kd,S nm,.int .i64 ps,.slice A xs.length c],vs] W (fun e W'=>∃A n c,e=.returned (.agg #[.int .i64 S0,.slice A n c])∧n≤1∧LkO (fun b=>W.heap.size≤b) W' A n c∧Below W.heap.size W W')):=zH (fun W vs hw hvs=>by
   have hO:=hot.trans (Oth.of_below hw)
   have h:=UP.out W t (Lfc.sd fs k) _ vs hO HTU.out.1 (SDZ.out k) (HV.out.oth hO) hvs
   rw [HS0.out] at h
   exact h)
  have G0:Below wr.heap.size wr wr.drew:=(zB _ _).drew
  clear hot hql hqr hsz hS0
  go_upto_region 16 with fail
  go_cut [17] (fun s wx=>Hid (EdX wr S0 s wx))
  case first =>
   refine wp_region_held_drew (S:=fun W=>W.cell? ⟨w.heap.size,0,none⟩=some (.int .i64 kd)∧W.cell? ⟨w.heap.size,1,none⟩=some (S nm)∧W.cell? ⟨w.heap.size,2,none⟩=some (.int .i64 ps)∧W.cell? ⟨w.heap.size,3,none⟩=some (.slice A xs.length c)) (by kernel_rfl) ?_ (fun hHeld=>?_)
   ·exact SC.out _ G0
   refine tk 0 ?_
   refine tk 1 ?_
   refine tk 2 ?_
   refine tk 3 ?_
   refine wpAnyH_ready (rs:=[4,6]) (by kernel_rfl) (by simp) ?_
   refine AllReadyH.cons rfl (fun K hK=>?_) ?_
   ·go_simp
    go_at_call 150
    refine (SDk.out _ (G0)).mono ?_
    rintro e w5 ⟨⟨vs,rfl,hvs⟩,b5'⟩
    have b5:=(G0).trans (b5'.mono (G0).size)
    refine hK.out _ _ (SC.out _ b5) (fun hHeld=>nrm ?_)
    clear hK K
    refine wpAnyH_ready (rs:=[5,6]) (by kernel_rfl) (by simp) ?_
    refine AllReadyH.cons rfl (fun K hK=>?_) ?_
    ·go_simp
     go_at_call 163
     refine (UPk.out _ _ (b5) (hvs)).mono ?_
     rintro e w6 ⟨A9,n9,c9,rfl,hn9,hl9,b6'⟩
     have b6:=(b5).trans (b6'.mono (b5).size)
     refine hK.out _ _ (SC.out _ b6) (fun hHeld=>nrm ?_)
     clear hK K
     have bA:Below wr.heap.size wr (w6.alloc (.cells #[.int .i64 0,.slice none 0 0] 183)):=b6.alloc b6.size _
     have bN:Below wr.heap.size wr (w6.alloc (.cells #[.int .i64 S0,.slice A9 n9 c9] 183)):=b6.alloc b6.size _
     refine wpAnyH_ready (rs:=[6]) (by kernel_rfl) (by simp) ?_
     refine AllReadyH.cons rfl (fun K hK=>?_) ?_
     ·go_simp
      refine hK.out _ _ (SC.out _ bA) (fun hHeld=>nrm ?_)
      clear hK K
      have HR:Hid (EdX wr S0 (.pointer (some ⟨w6.heap.size,0,none⟩)) (w6.alloc (.cells #[.int .i64 S0,.slice A9 n9 c9] 183))):=zH ⟨w6.heap.size,A9,n9,c9,rfl,zW _ _,hn9,hl9.keep (fun j _ hlt=>zA _ _ _ hlt) (by simp) (fun j hlt hj=>⟨Nat.le_trans b5.size hj,by omega⟩),bN,b6.size⟩
      clear hl9
      refine wpAnyH_ready (rs:=[7]) (by kernel_rfl) (by simp) ?_
      refine AllReadyH.cons rfl (fun K hK=>?_) ?_
      ·go_simp
       refine hK.out _ _ (SC.out _ bN) (fun hHeld=>nrm ?_)
       clear hK K
       refine wpAnyH_done (by kernel_rfl) ?_ _
       go_wp2_with fail
       go_meet
       exact HR
      exact AllReadyH.nil
     exact AllReadyH.nil
    refine AllReadyH.cons rfl (fun K hK=>?_) ?_
    ·have bA:Below wr.heap.size wr (w5.alloc (.cells #[.int .i64 0,.slice none 0 0] 183)):=b5.alloc b5.size _
     have hsA:(w5.alloc (.cells #[.int .i64 0,.slice none 0 0] 183)).heap.size=w5.heap.size+1:=by simp
     have hgs:wr.heap.size≤w5.heap.size:=b5.size
     have hvsA:=hvs.oth (Oth.of_below ((zB _ w5).alloc (zN _) (.cells #[.int .i64 0,.slice none 0 0] 183)))
     go_simp
     refine hK.out _ _ (SC.out _ bA) (fun hHeld=>nrm ?_)
     clear hK K
     refine wpAnyH_ready (rs:=[5]) (by kernel_rfl) (by simp) ?_
     refine AllReadyH.cons rfl (fun K hK=>?_) ?_
     ·go_simp
      go_at_call 163
      refine (UPk.out _ _ (bA) (hvsA)).mono ?_
      rintro e w6 ⟨A9,n9,c9,rfl,hn9,hl9,b6'⟩
      have b6:=(bA).trans (b6'.mono (bA).size)
      refine hK.out _ _ (SC.out _ b6) (fun hHeld=>nrm ?_)
      clear hK K
      have hjs:∀j,(w5.alloc (.cells #[.int .i64 0,.slice none 0 0] 183)).heap.size≤j→w5.heap.size<j∧wr.heap.size≤j:=fun j hj=>by rw [hsA] at hj;omega
      obtain ⟨s1,s2,h1',h2',⟨y0,y1⟩,⟨ff0,ff1⟩,hq,hot⟩:=put2 ((b6'.block _ (by rw [hsA];omega)).trans (zW w5 _)) (.int .i64 S0) (.slice A9 n9 c9)
      have BS:=zH (Oth.below b6 hot hgs b6.size)
      have HR:Hid (EdX wr S0 (.pointer (some ⟨w5.heap.size,0,none⟩)) s2):=zH ⟨w5.heap.size,A9,n9,c9,rfl,hq,hn9,hl9.keep (fun j hj hlt=>hot.block j hlt (fun e=>by have e:=zO e;have hj:=hjs j hj;omega)) hot.size (fun j _ hj=>by have hj:=hjs j hj;exact ⟨hj.2,by omega⟩),BS.out,hgs⟩
      clear hq hot hl9
      refine wpAnyH_ready (rs:=[7]) (by kernel_rfl) (by simp) ?_
      refine AllReadyH.cons rfl (fun K hK=>?_) ?_
      ·go_simp
       refine hK.out _ _ (SC.out _ BS.out) (fun hHeld=>nrm ?_)
       clear hK K
       refine wpAnyH_done (by kernel_rfl) ?_ _
       go_wp2_with fail
       go_meet
       exact HR
      exact AllReadyH.nil
     exact AllReadyH.nil
    exact AllReadyH.nil
   refine AllReadyH.cons rfl (fun K hK=>?_) ?_
   ·have bA:Below wr.heap.size wr (wr.drew.alloc (.cells #[.int .i64 0,.slice none 0 0] 183)):=G0.alloc G0.size _
    have hsA:(wr.drew.alloc (.cells #[.int .i64 0,.slice none 0 0] 183)).heap.size=wr.heap.size+1:=by simp
    have hgs:wr.heap.size≤wr.heap.size:=zN _
    go_simp
    refine hK.out _ _ (SC.out _ bA) (fun hHeld=>nrm ?_)
    clear hK K
    refine wpAnyH_ready (rs:=[4]) (by kernel_rfl) (by simp) ?_
    refine AllReadyH.cons rfl (fun K hK=>?_) ?_
    ·go_simp
     go_at_call 150
     refine (SDk.out _ (bA)).mono ?_
     rintro e w5 ⟨⟨vs,rfl,hvs⟩,b5'⟩
     have b5:=(bA).trans (b5'.mono (bA).size)
     refine hK.out _ _ (SC.out _ b5) (fun hHeld=>nrm ?_)
     clear hK K
     refine wpAnyH_ready (rs:=[5]) (by kernel_rfl) (by simp) ?_
     refine AllReadyH.cons rfl (fun K hK=>?_) ?_
     ·go_simp
      go_at_call 163
      refine (UPk.out _ _ (b5) (hvs)).mono ?_
      rintro e w6 ⟨A9,n9,c9,rfl,hn9,hl9,b6'⟩
      have b6:=(b5).trans (b6'.mono (b5).size)
      refine hK.out _ _ (SC.out _ b6) (fun hHeld=>nrm ?_)
      clear hK K
      have hs5:=b5'.size
      simp at hs5
      have hjs:∀j,w5.heap.size≤j→wr.heap.size<j∧wr.heap.size≤j:=fun j hj=>by omega
      obtain ⟨s1,s2,h1',h2',⟨y0,y1⟩,⟨ff0,ff1⟩,hq,hot⟩:=put2 ((b6'.block _ (by omega)).trans ((b5'.block wr.heap.size (by simp)).trans (zW wr _))) (.int .i64 S0) (.slice A9 n9 c9)
      have BS:=zH (Oth.below b6 hot hgs b6.size)
      have HR:Hid (EdX wr S0 (.pointer (some ⟨wr.heap.size,0,none⟩)) s2):=zH ⟨wr.heap.size,A9,n9,c9,rfl,hq,hn9,hl9.keep (fun j hj hlt=>hot.block j hlt (fun e=>by have e:=zO e;have hj:=hjs j hj;omega)) hot.size (fun j _ hj=>by have hj:=hjs j hj;exact ⟨hj.2,by omega⟩),BS.out,hgs⟩
      clear hq hot hl9
      refine wpAnyH_ready (rs:=[7]) (by kernel_rfl) (by simp) ?_
      refine AllReadyH.cons rfl (fun K hK=>?_) ?_
      ·go_simp
       refine hK.out _ _ (SC.out _ BS.out) (fun hHeld=>nrm ?_)
       clear hK K
       refine wpAnyH_done (by kernel_rfl) ?_ _
       go_wp2_with fail
       go_meet
       exact HR
      exact AllReadyH.nil
     exact AllReadyH.nil
    exact AllReadyH.nil
   exact AllReadyH.nil
  obtain ⟨ge,A9,n9,c9,rfl,hqg,hn9,hl9,bx,hge⟩:=hcut.out
  clear hcut SC SDk UPk G0
  obtain ⟨y0,y1⟩:=cells2e hqg
  have hSc:=HI.out.1.below HOK.out bx
  have hSr:=Lfc.upS_range ks t (Lfc.sd fs k)
  rw [HS0.out] at hSr
  have CALL:Hid (Calls Tryz.prog 164 #[.int .i64 (k:Int),.int .i64 S0,.slice A9 n9 c9,.pointer (some ⟨w4.heap.size,0,none⟩),.pointer (some ⟨wq.heap.size,0,none⟩)] wc (ReachAns ks fs ⟨w4.heap.size,g0,g1,g2,wq.heap.size,nn,Mb⟩ q w6 R' zs U v k S0 wc)):=zH (reach_any ks fs _ q w6 R' zs U v wc hSc HOK.out k S0 A9 n9 c9 hlt hnb hSr (fun _=>hl9.keep (fun _ _ _=>rfl) (zN _) (fun b _ hb=>HI.out.1.qnew HOK.out b hb.1)) (fun _=>by simp only;omega) (by have:=HI.out.2.2;omega))
  clear hqg hl9 bx hSc hSr
  go_wp2_with fail
  refine CALL.out.mono ?_
  rintro e wd ⟨rfl,R2,zs2,U2,v2,hS2,_,hd⟩
  have HN:Hid (ChSt ks fs ⟨w4.heap.size,g0,g1,g2,wq.heap.size,nn,Mb⟩ q w6 R2 zs2 U2 v2 wd∧Lfc.SInv ks fs t u must R2 zs2 (k+1) none∧zs2.length+U2≤2*nn):=zH ⟨hS2,HI.out.2.1.after_start (by rw [HNN.out];exact hlt) HS0.out HI.out.2.2 hd⟩
  clear hS2 hd CALL y0 y1
  go_wp2_with fail
  go_roundw
  case rel=>(repeat apply Exists.intro);exact ⟨⟨k+1,R2,zs2,U2,v2,by omega,by go_num,HN⟩,rfl⟩
  case measure=>simp [intOf];omega
 obtain rfl:nn=k:=by omega
 obtain ⟨wz,hwz⟩:∃wz,wz=wr:=⟨_,rfl⟩
 subst hwz
 have HI0:Hid (ChSt ks fs ⟨w4.heap.size,g0,g1,g2,wq.heap.size,nn,Mb⟩ q w6 R' zs U v wz∧Lfc.SInv ks fs t u must R' zs nn none∧zs.length+U≤2*nn∧2*U+zs.length≤2*U+zs.length):=zH ⟨HI.out.1,HI.out.2.1,HI.out.2.2,zN _⟩
 clear HI
 go_wp2_with fail
 go_loopg [] (2*U+zs.length) (fun gk wr=>∃ (R:Nat→Int→Bool) (zs:List (Nat × Int)) (U:Nat) (v:Value),Hid (ChSt ks fs ⟨w4.heap.size,g0,g1,g2,wq.heap.size,nn,Mb⟩ q w6 R zs U v wr∧Lfc.SInv ks fs t u must R zs nn none∧zs.length+U≤2*nn∧2*U+zs.length≤gk))
 case atStart=>exact ⟨_,_,_,_,HI0⟩
 clear HI0
 obtain ⟨R3,zs3,U3,v3,HJ⟩:=hrel
 cases zs3 with
 | nil =>
  obtain ⟨Av,cv,rfl⟩:=HJ.out.1.row.shape
  have x14:=(zC HJ.out.1.que 0:wr.cell? ⟨wq.heap.size,0,none⟩=_)
  simp at x14
  have HZ:Hid (ChnAns ks fs Mb q w rr (.returned (.tuple #[.slice none 0 0,.bool false])) wr):=zH (by
   have h:=HJ.out.2.1
   rw [←HNN.out] at h
   exact ⟨⟨none,0,0,false,rfl,LkO.nil,by omega,by rw [←HRR.out];exact ⟨fun h2=>(by cases h2),fun h'=>absurd h' (h.no (by have:=HND.out;omega))⟩⟩,HJ.out.1.cache.keep (row:=none) ⟨rfl,rfl,rfl,zN _,fun _ _ _=>rfl⟩ (fun e=>by cases e) (fun _ _ _ e=>by cases e) (fun b _ hb=>hb.1),(TOT.out _ _ _ _ _ HJ.out.1).1⟩)
  clear HJ
  go_wp2_with fail
  refine bodyPost_ret (results_tmp2 rfl _ _ _) rfl ?_
  exact HZ.out
 | cons z zs3 =>
  obtain ⟨i,s⟩:=z
  obtain ⟨gq,oq,cap,Aq,rfl,hsl,hpop⟩:=HJ.out.1.pops HOK.out
  obtain ⟨⟨c14,_,di,ds⟩,_⟩:=hpop wr (zB _ _)
  simp only at c14 di ds
  have HRi:Hid (R3 i s=true):=zH (HJ.out.2.1.queue (i,s) (List.mem_cons_self ..))
  have hrch:=HJ.out.2.1.sound i s HRi.out
  have hin:i<nn:=by rw [←HNN.out];exact hrch.lt
  have hs12:=hrch.range
  have HLEN:Hid (zs3.length+1+U3≤2*nn∧2*U3+(zs3.length+1)≤gk):=zH ⟨HJ.out.2.2.1,HJ.out.2.2.2⟩
  have HSI:Hid (Lfc.SInv ks fs t u must R3 ((i,s) :: zs3) nn none):=zH HJ.out.2.1
  have HSEQ:Hid (zs3.length=zs3.length):=zH rfl
  generalize hzl:zs3.length=zl at c14 hsl hpop
  have HZL:=zH hzl
  clear hzl
  have hln0:(0:Int)<(zl:Int)+1:=by omega
  have hln1:(0:Int)<((zl+1:Nat):Int):=by omega
  have hln2:0<zl+1:=by omega
  have HPOP:=zH hpop
  clear hrch HJ hpop
  go_wp2_with fail
  go_quiet (fail)
  clear c14 di ds
  obtain ⟨w8,hw8⟩:∃w8,wr.drewN nq=w8:=⟨_,rfl⟩
  rw [hw8]
  obtain ⟨⟨x14,f14,_,_⟩,HP7⟩:=HPOP.out w8 (by rw [←hw8];exact ⟨rfl,rfl,rfl,zN _,fun _ _=>rfl⟩)
  obtain ⟨w7,hset⟩:∃w7,w8.setCell ⟨wq.heap.size,0,none⟩ (.slice Aq zl cap)=w7:=⟨_,rfl⟩
  try dsimp only at x14
  try dsimp only at f14
  try dsimp only at HP7
  rw [hset] at HP7
  clear hw8 HPOP
  go_upto_region 22 with fail
  clear hset x14 f14 hsl hln0 hln1 hln2
  obtain ⟨hot7,hql7,hqr7,hsz7⟩:=TOT.out _ _ _ _ _ HP7.out
  have b0:=(zC HP7.out.best 1:w7.cell? ⟨w4.heap.size,1,none⟩=_)
  have b1:=(zC HP7.out.best 2:w7.cell? ⟨w4.heap.size,2,none⟩=_)
  simp at b0 b1
  have hi0:(0:Int)≤(i:Int):=Int.natCast_nonneg _
  have hi1:(i:Int)<(nn:Int):=by omega
  have HS12:=zH hs12
  go_cut [20] (fun x wx=>Hid (∃Al m cl',x=.slice Al m cl'∧wx=w7∧LkO (Spot.Q ⟨w4.heap.size,g0,g1,g2,wq.heap.size,nn,Mb⟩ q (.slice Aq zl cap)) w7 Al m cl'∧m≤2*nn-U3))
  case first =>
   rcases hs12 with rfl | rfl
   ·obtain ⟨Al,m,cl',d0,d1,_,_,d2⟩:=HP7.out.row1.cells (i:=i) hin
    have HR:=zH (d2 HRi.out)
    clear d2
    try dsimp only at d1
    go_wp2_with fail
    go_meet
    exact zH ⟨Al,m,cl',rfl,rfl,HR.out⟩
   obtain ⟨Al,m,cl',d0,d1,_,_,d2⟩:=HP7.out.row2.cells (i:=i) hin
   have HR:=zH (d2 HRi.out)
   clear d2
   try dsimp only at d1
   go_wp2_with fail
   go_meet
   exact zH ⟨Al,m,cl',rfl,rfl,HR.out⟩
  obtain ⟨Al,m,cl',rfl,hwc,hla,hma⟩:=hcut.out
  subst hwc
  have HLA:=zH (And.intro hla hma)
  clear hcut hla hma b0 b1 HS12
  obtain ⟨w7,hw7⟩:∃w7,w7=wc:=⟨_,rfl⟩
  subst hw7
  obtain ⟨S0,hS0⟩:∃S0,Lfc.upS ks (Lfc.sd fs i) u=S0:=⟨_,rfl⟩
  have HS0:=zH hS0
  have hi2:i<2*fs.length:=by rw [HNN.out];exact hin
  have hlw:w1.heap.size<w7.heap.size:=by have:=H26.out;omega
  have SC:Hid (∀W,Below w7.heap.size w7 W→W.cell? ⟨w1.heap.size,0,none⟩=some (.int .i64 kd')∧W.cell? ⟨w1.heap.size,1,none⟩=some (S nm')∧W.cell? ⟨w1.heap.size,2,none⟩=some (.int .i64 ps')∧W.cell? ⟨w1.heap.size,3,none⟩=some (.slice A' ys.length c')):=zH (fun W hw=>cells4t ((hw.block _ hlw).trans hqr7))
  have SDk:Hid (∀W,Below w7.heap.size w7 W→Calls Tryz.prog 150 #[.pointer (some ⟨Bx,0,none⟩),.int .i64 (i:Int)] W (SideAns (fun b=>b≠Mb) W (Lfc.sd fs i))):=zH (fun W hw=>SD.out W i (hot7.trans (Oth.of_below hw)) hi2)
  have UPk:Hid (∀W vs,Below w7.heap.size w7 W→TreeVP (fun b=>b≠Mb) W (Lfc.sd fs i) vs→Calls Tryz.prog 163 #[.pointer (some ⟨Bx,0,none⟩),vs,.agg #[.int .i64 kd',S nm',.int .i64 ps',.slice A' ys.length c']] W (fun e W'=>∃A n c,e=.returned (.agg #[.int .i64 S0,.slice A n c])∧n≤1∧LkO (fun b=>W.heap.size≤b) W' A n c∧Below W.heap.size W W')):=zH (fun W vs hw hvs=>by
   have hO:=hot7.trans (Oth.of_below hw)
   have h:=UP.out W (Lfc.sd fs i) u vs _ hO (SDZ.out i) HTU.out.2 hvs (HV'.out.oth hO)
   rw [HS0.out] at h
   exact h)
  have G0:Below w7.heap.size w7 w7.drew:=(zB _ _).drew
  clear hot7 hql7 hqr7 hsz7 hS0
  go_upto_region 23 with fail
  go_cut [21] (fun s wx=>Hid (EdX w7 S0 s wx))
  case first =>
   refine wp_region_held_drew (S:=fun W=>W.cell? ⟨w1.heap.size,0,none⟩=some (.int .i64 kd')∧W.cell? ⟨w1.heap.size,1,none⟩=some (S nm')∧W.cell? ⟨w1.heap.size,2,none⟩=some (.int .i64 ps')∧W.cell? ⟨w1.heap.size,3,none⟩=some (.slice A' ys.length c')) (by kernel_rfl) ?_ (fun hHeld=>?_)
   ·exact SC.out _ G0
   refine tk 0 ?_
   refine tk 1 ?_
   refine tk 2 ?_
   refine tk 4 ?_
   refine wpAnyH_ready (rs:=[3,6]) (by kernel_rfl) (by simp) ?_
   refine AllReadyH.cons rfl (fun K hK=>?_) ?_
   ·go_simp
    go_at_call 150
    refine (SDk.out _ (G0)).mono ?_
    rintro e w5 ⟨⟨vs,rfl,hvs⟩,b5'⟩
    have b5:=(G0).trans (b5'.mono (G0).size)
    refine hK.out _ _ (SC.out _ b5) (fun hHeld=>nrm ?_)
    clear hK K
    refine wpAnyH_ready (rs:=[5,6]) (by kernel_rfl) (by simp) ?_
    refine AllReadyH.cons rfl (fun K hK=>?_) ?_
    ·go_simp
     go_at_call 163
     refine (UPk.out _ _ (b5) (hvs)).mono ?_
     rintro e w6 ⟨A9,n9,c9,rfl,hn9,hl9,b6'⟩
     have b6:=(b5).trans (b6'.mono (b5).size)
     refine hK.out _ _ (SC.out _ b6) (fun hHeld=>nrm ?_)
     clear hK K
     have bA:Below w7.heap.size w7 (w6.alloc (.cells #[.int .i64 0,.slice none 0 0] 183)):=b6.alloc b6.size _
     have bN:Below w7.heap.size w7 (w6.alloc (.cells #[.int .i64 S0,.slice A9 n9 c9] 183)):=b6.alloc b6.size _
     refine wpAnyH_ready (rs:=[6]) (by kernel_rfl) (by simp) ?_
     refine AllReadyH.cons rfl (fun K hK=>?_) ?_
     ·go_simp
      refine hK.out _ _ (SC.out _ bA) (fun hHeld=>nrm ?_)
      clear hK K
      have HR:Hid (EdX w7 S0 (.pointer (some ⟨w6.heap.size,0,none⟩)) (w6.alloc (.cells #[.int .i64 S0,.slice A9 n9 c9] 183))):=zH ⟨w6.heap.size,A9,n9,c9,rfl,zW _ _,hn9,hl9.keep (fun j _ hlt=>zA _ _ _ hlt) (by simp) (fun j hlt hj=>⟨Nat.le_trans b5.size hj,by omega⟩),bN,b6.size⟩
      clear hl9
      refine wpAnyH_ready (rs:=[7]) (by kernel_rfl) (by simp) ?_
      refine AllReadyH.cons rfl (fun K hK=>?_) ?_
      ·go_simp
       refine hK.out _ _ (SC.out _ bN) (fun hHeld=>nrm ?_)
       clear hK K
       refine wpAnyH_done (by kernel_rfl) ?_ _
       go_wp2_with fail
       go_meet
       exact HR
      exact AllReadyH.nil
     exact AllReadyH.nil
    refine AllReadyH.cons rfl (fun K hK=>?_) ?_
    ·have bA:Below w7.heap.size w7 (w5.alloc (.cells #[.int .i64 0,.slice none 0 0] 183)):=b5.alloc b5.size _
     have hsA:(w5.alloc (.cells #[.int .i64 0,.slice none 0 0] 183)).heap.size=w5.heap.size+1:=by simp
     have hgs:w7.heap.size≤w5.heap.size:=b5.size
     have hvsA:=hvs.oth (Oth.of_below ((zB _ w5).alloc (zN _) (.cells #[.int .i64 0,.slice none 0 0] 183)))
     go_simp
     refine hK.out _ _ (SC.out _ bA) (fun hHeld=>nrm ?_)
     clear hK K
     refine wpAnyH_ready (rs:=[5]) (by kernel_rfl) (by simp) ?_
     refine AllReadyH.cons rfl (fun K hK=>?_) ?_
     ·go_simp
      go_at_call 163
      refine (UPk.out _ _ (bA) (hvsA)).mono ?_
      rintro e w6 ⟨A9,n9,c9,rfl,hn9,hl9,b6'⟩
      have b6:=(bA).trans (b6'.mono (bA).size)
      refine hK.out _ _ (SC.out _ b6) (fun hHeld=>nrm ?_)
      clear hK K
      have hjs:∀j,(w5.alloc (.cells #[.int .i64 0,.slice none 0 0] 183)).heap.size≤j→w5.heap.size<j∧w7.heap.size≤j:=fun j hj=>by rw [hsA] at hj;omega
      obtain ⟨s1,s2,h1',h2',⟨y0,y1⟩,⟨ff0,ff1⟩,hq,hot⟩:=put2 ((b6'.block _ (by rw [hsA];omega)).trans (zW w5 _)) (.int .i64 S0) (.slice A9 n9 c9)
      have BS:=zH (Oth.below b6 hot hgs b6.size)
      have HR:Hid (EdX w7 S0 (.pointer (some ⟨w5.heap.size,0,none⟩)) s2):=zH ⟨w5.heap.size,A9,n9,c9,rfl,hq,hn9,hl9.keep (fun j hj hlt=>hot.block j hlt (fun e=>by have e:=zO e;have hj:=hjs j hj;omega)) hot.size (fun j _ hj=>by have hj:=hjs j hj;exact ⟨hj.2,by omega⟩),BS.out,hgs⟩
      clear hq hot hl9
      refine wpAnyH_ready (rs:=[7]) (by kernel_rfl) (by simp) ?_
      refine AllReadyH.cons rfl (fun K hK=>?_) ?_
      ·go_simp
       refine hK.out _ _ (SC.out _ BS.out) (fun hHeld=>nrm ?_)
       clear hK K
       refine wpAnyH_done (by kernel_rfl) ?_ _
       go_wp2_with fail
       go_meet
       exact HR
      exact AllReadyH.nil
     exact AllReadyH.nil
    exact AllReadyH.nil
   refine AllReadyH.cons rfl (fun K hK=>?_) ?_
   ·have bA:Below w7.heap.size w7 (w7.drew.alloc (.cells #[.int .i64 0,.slice none 0 0] 183)):=G0.alloc G0.size _
    have hsA:(w7.drew.alloc (.cells #[.int .i64 0,.slice none 0 0] 183)).heap.size=w7.heap.size+1:=by simp
    have hgs:w7.heap.size≤w7.heap.size:=zN _
    go_simp
    refine hK.out _ _ (SC.out _ bA) (fun hHeld=>nrm ?_)
    clear hK K
    refine wpAnyH_ready (rs:=[3]) (by kernel_rfl) (by simp) ?_
    refine AllReadyH.cons rfl (fun K hK=>?_) ?_
    ·go_simp
     go_at_call 150
     refine (SDk.out _ (bA)).mono ?_
     rintro e w5 ⟨⟨vs,rfl,hvs⟩,b5'⟩
     have b5:=(bA).trans (b5'.mono (bA).size)
     refine hK.out _ _ (SC.out _ b5) (fun hHeld=>nrm ?_)
     clear hK K
     refine wpAnyH_ready (rs:=[5]) (by kernel_rfl) (by simp) ?_
     refine AllReadyH.cons rfl (fun K hK=>?_) ?_
     ·go_simp
      go_at_call 163
      refine (UPk.out _ _ (b5) (hvs)).mono ?_
      rintro e w6 ⟨A9,n9,c9,rfl,hn9,hl9,b6'⟩
      have b6:=(b5).trans (b6'.mono (b5).size)
      refine hK.out _ _ (SC.out _ b6) (fun hHeld=>nrm ?_)
      clear hK K
      have hs5:=b5'.size
      simp at hs5
      have hjs:∀j,w5.heap.size≤j→w7.heap.size<j∧w7.heap.size≤j:=fun j hj=>by omega
      obtain ⟨s1,s2,h1',h2',⟨y0,y1⟩,⟨ff0,ff1⟩,hq,hot⟩:=put2 ((b6'.block _ (by omega)).trans ((b5'.block w7.heap.size (by simp)).trans (zW w7 _))) (.int .i64 S0) (.slice A9 n9 c9)
      have BS:=zH (Oth.below b6 hot hgs b6.size)
      have HR:Hid (EdX w7 S0 (.pointer (some ⟨w7.heap.size,0,none⟩)) s2):=zH ⟨w7.heap.size,A9,n9,c9,rfl,hq,hn9,hl9.keep (fun j hj hlt=>hot.block j hlt (fun e=>by have e:=zO e;have hj:=hjs j hj;omega)) hot.size (fun j _ hj=>by have hj:=hjs j hj;exact ⟨hj.2,by omega⟩),BS.out,hgs⟩
      clear hq hot hl9
      refine wpAnyH_ready (rs:=[7]) (by kernel_rfl) (by simp) ?_
      refine AllReadyH.cons rfl (fun K hK=>?_) ?_
      ·go_simp
       refine hK.out _ _ (SC.out _ BS.out) (fun hHeld=>nrm ?_)
       clear hK K
       refine wpAnyH_done (by kernel_rfl) ?_ _
       go_wp2_with fail
       go_meet
       exact HR
      exact AllReadyH.nil
     exact AllReadyH.nil
    exact AllReadyH.nil
   exact AllReadyH.nil
  obtain ⟨ge,A9,n9,c9,rfl,hqg,hn9,hl9,bx,hge⟩:=hcut.out
  clear hcut SC SDk UPk G0
  obtain ⟨y0,y1⟩:=cells2e hqg
  have HS9:=zH (HP7.out.below HOK.out bx)
  have hLm:=HLA.out.2
  have HLB:Hid (LkO (Spot.Q ⟨w4.heap.size,g0,g1,g2,wq.heap.size,nn,Mb⟩ q (.slice Aq zl cap)) wc Al m cl'):=zH (HLA.out.1.kpt (Kpt.of_below bx) (fun _ _ h=>h))
  have HL9:Hid (LkO (Spot.Q ⟨w4.heap.size,g0,g1,g2,wq.heap.size,nn,Mb⟩ q (.slice Aq zl cap)) wc A9 n9 c9):=zH (hl9.keep (fun _ _ _=>rfl) (zN _) (fun b _ hb=>HP7.out.qnew HOK.out b hb.1))
  obtain ⟨mx,hmx⟩:∃mx,max S0 s=mx:=⟨_,rfl⟩
  have HMX:Hid (mx=max S0 s):=zH hmx.symm
  clear hqg hl9 HLA bx HP7
  go_upto_region 24 with fail
  go_cut [103] (fun x wx=>∃bb:Bool,x=.bool bb∧Hid (bb=true↔0<S0∧must≤mx)∧wx=wc)
  case first =>
   by_cases h0:0<S0
   ·have e1:decide (S0>0)=true:=by rw [decide_eq_true_eq];exact h0
    have e2:decide (0<S0)=true:=by rw [decide_eq_true_eq];exact h0
    by_cases h1:must≤mx
    ·have e3:decide (mx≥must)=true:=by rw [decide_eq_true_eq];exact h1
     have e4:decide (must≤mx)=true:=by rw [decide_eq_true_eq];exact h1
     go_wp2_with fail
     go_meet
     exact ⟨true,rfl,zH ⟨fun _=>⟨h0,h1⟩,fun _=>rfl⟩,rfl⟩
    have e3:decide (mx≥must)=false:=by rw [decide_eq_false_iff_not];exact h1
    have e4:decide (must≤mx)=false:=by rw [decide_eq_false_iff_not];exact h1
    go_wp2_with fail
    go_meet
    exact ⟨false,rfl,zH ⟨fun h=>(by cases h),fun h=>by exfalso;omega⟩,rfl⟩
   have e1:decide (S0>0)=false:=by rw [decide_eq_false_iff_not];exact h0
   have e2:decide (0<S0)=false:=by rw [decide_eq_false_iff_not];exact h0
   go_wp2_with fail
   go_meet
   exact ⟨false,rfl,zH ⟨fun h=>(by cases h),fun h=>by exfalso;omega⟩,rfl⟩
  obtain ⟨bb,rfl,HBB,hwc2⟩:=hcut
  subst hwc2
  clear hmx
  cases bb with
  | true =>
   have hz:=HBB.out.1 rfl
   obtain ⟨wd,hwd⟩:∃wd,wc.alloc (.cells #[.slice Al m cl',.slice A9 n9 c9] 37)=wd:=⟨_,rfl⟩
   have bd:=zG hwd
   have qd:=zQ hwd
   have HSd:=zH (HS9.out.below HOK.out bd)
   have CAT:=zH (cat2_any (Spot.Q ⟨w4.heap.size,g0,g1,g2,wq.heap.size,nn,Mb⟩ q (.slice Aq zl cap)) wc.heap.size 37 Al A9 m n9 cl' c9 wd qd (HLB.out.kpt (Kpt.of_below bd) (fun _ _ h=>h)) (HL9.out.kpt (Kpt.of_below bd) (fun _ _ h=>h)) (by omega) (HSd.out.qnew HOK.out))
   have HZZ:=zH hz
   clear bd qd hz HS9 HLB HL9
   go_wp2_with fail
   refine CAT.out.mono ?_
   rintro e we ⟨⟨Af,cf,rfl,hlf⟩,bf⟩
   have HSe:=HSd.out.below HOK.out bf
   have HZ:Hid (ChnAns ks fs Mb q w rr (.returned (.tuple #[.slice Af (m+n9) cf,.bool true])) we):=zH ⟨⟨Af,m+n9,cf,true,rfl,hlf.keep (fun _ _ _=>rfl) (zN _) (fun b _ hb=>hb.1),by have:=HNN.out;omega,by rw [←HRR.out];exact ⟨fun _=>.inr ⟨i,s,HSI.out.sound i s HRi.out,by rw [HS0.out];exact HZZ.out.1,by rw [HS0.out,←HMX.out];exact HZZ.out.2⟩,fun _=>rfl⟩⟩,HSe.cache.keep (row:=none) ⟨rfl,rfl,rfl,zN _,fun _ _ _=>rfl⟩ (fun e=>by cases e) (fun _ _ _ e=>by cases e) (fun b _ hb=>hb.1),(TOT.out _ _ _ _ _ HSe).1⟩
   clear HSe hlf bf CAT hwd y0 y1
   go_wp2_with fail
   refine bodyPost_ret (results_tmp2 rfl _ _ _) rfl ?_
   exact HZ.out
  | false =>
   have hz:¬ (0<S0∧must≤mx):=fun h=>by have:=HBB.out.2 h;cases this
   have HSP:Hid (Lfc.SInv ks fs t u must R3 zs3 nn (some (i,s,0))):=zH (HSI.out.pop (fun h=>hz (by rw [HS0.out] at h;rw [HMX.out];exact h)))
   obtain ⟨we,hwe⟩:∃we,we=wc:=⟨_,rfl⟩
   subst hwe
   have I0:Hid (ChSt ks fs ⟨w4.heap.size,g0,g1,g2,wq.heap.size,nn,Mb⟩ q w6 R3 zs3 U3 (.slice Aq zl cap) we∧Lfc.SInv ks fs t u must R3 zs3 nn (some (i,s,0))∧zs3.length+U3≤2*nn∧2*U3+zs3.length<gk∧U3≤U3∧LkO (Spot.Q ⟨w4.heap.size,g0,g1,g2,wq.heap.size,nn,Mb⟩ q (.slice Aq zl cap)) we Al m cl'):=zH ⟨HS9.out,HSP.out,by have:=HLEN.out;omega,by have:=HLEN.out;omega,zN _,HLB.out⟩
   clear hz HS9 HLB HL9 HSP HSI HRi HLEN HSEQ HS0 HMX hge y0 y1
   go_wp2_with fail
   go_loopw [110] (fun x wr=>∃ (k:Nat) (R:Nat→Int→Bool) (zs:List (Nat × Int)) (U:Nat) (v:Value),k≤nn∧x=.int .i64 (k:Int)∧Hid (ChSt ks fs ⟨w4.heap.size,g0,g1,g2,wq.heap.size,nn,Mb⟩ q w6 R zs U v wr∧Lfc.SInv ks fs t u must R zs nn (some (i,s,k))∧zs.length+U≤2*nn∧2*U+zs.length<gk∧U≤U3∧LkO (Spot.Q ⟨w4.heap.size,g0,g1,g2,wq.heap.size,nn,Mb⟩ q v) wr Al m cl')) (fun x _=>nn-(intOf x).toNat)
   case atStart=>exact ⟨0,_,_,_,_,by omega,rfl,I0⟩
   clear I0
   obtain ⟨k,R4,zs4,U4,v4,hk,rfl,HK⟩:=hrel
   by_cases hlt:k<nn
   ·have hk0:(0:Int)≤(k:Int):=Int.natCast_nonneg _
    have hk1:(k:Int)<(nn:Int):=by omega
    by_cases hki:k=i
    ·have hdi:decide ((k:Int)=(i:Int))=true:=by rw [decide_eq_true_eq];omega
     have hdi1:((k:Int) == (i:Int))=true:=by simp;omega
     have HN:Hid (ChSt ks fs ⟨w4.heap.size,g0,g1,g2,wq.heap.size,nn,Mb⟩ q w6 R4 zs4 U4 v4 wr∧Lfc.SInv ks fs t u must R4 zs4 nn (some (i,s,k+1))∧zs4.length+U4≤2*nn∧2*U4+zs4.length<gk∧U4≤U3∧LkO (Spot.Q ⟨w4.heap.size,g0,g1,g2,wq.heap.size,nn,Mb⟩ q v4) wr Al m cl'):=zH ⟨HK.out.1,HK.out.2.1.skip (.inl hki),HK.out.2.2⟩
     clear HK hki
     go_wp2_with fail
     go_roundw
     case rel=>first | exact ⟨k+1,R4,zs4,U4,v4,by omega,by go_num,HN⟩ | ((repeat apply Exists.intro);exact ⟨⟨k+1,R4,zs4,U4,v4,by omega,by go_num,HN⟩,rfl⟩)
     case measure=>simp [intOf];omega
    have hdi:decide ((k:Int)=(i:Int))=false:=by rw [decide_eq_false_iff_not];omega
    have hdi1:((k:Int) == (i:Int))=false:=by simp;omega
    have hk2:k<2*fs.length:=by rw [HNN.out];exact hlt
    obtain ⟨T0,hT0⟩:∃T0,Lfc.stp ks fs i k=T0:=⟨_,rfl⟩
    have hT0r:=Lfc.stp_range ks fs i k
    have CALL:=zH (ST.out wr i k (Spot.Q ⟨w4.heap.size,g0,g1,g2,wq.heap.size,nn,Mb⟩ q v4) (TOT.out _ _ _ _ _ HK.out.1).1 HK.out.1.cache (HK.out.1.qnew HOK.out) (fun b hb=>HQM.out b hb.1) hi2 hk2 hki)
    rw [hT0] at CALL hT0r
    have HT0:=zH hT0
    have HKI:=zH hki
    clear hT0 hki
    go_wp2_with fail
    refine CALL.out.mono ?_
    rintro e wa ⟨⟨va,rfl,A5,n5,c5,rfl,hn5,hl5⟩,hCa,hoa⟩
    obtain ⟨wb,hwb⟩:∃wb,wa.alloc (.cells #[.int .i64 T0,.slice A5 n5 c5] 183)=wb:=⟨_,rfl⟩
    have bb:=zG hwb
    have qb:=zQ hwb
    have HWB:=zH hwb
    have hSa:=HK.out.1.oth HOK.out hoa hCa
    have HSb:=zH (hSa.below HOK.out bb)
    have lwa:wa.heap.size<wb.heap.size:=zL qb
    have HQA:Hid (Spot.Q ⟨w4.heap.size,g0,g1,g2,wq.heap.size,nn,Mb⟩ q v4 wa.heap.size):=zH (hSa.qnew HOK.out _ (zN _))
    have HLK:Hid (LkO (Spot.Q ⟨w4.heap.size,g0,g1,g2,wq.heap.size,nn,Mb⟩ q v4) wb Al m cl'):=zH ((HK.out.2.2.2.2.2.kpt (Kpt.of_oth hoa (fun b hb=>HQM.out b hb.1)) (fun _ _ h=>h)).kpt (Kpt.of_below bb) (fun _ _ h=>h))
    have HL5:Hid (LkO (Spot.Q ⟨w4.heap.size,g0,g1,g2,wq.heap.size,nn,Mb⟩ q v4) wb A5 n5 c5):=zH (hl5.kpt (Kpt.of_below bb) (fun _ _ h=>h))
    have HR4:Hid (Lfc.SInv ks fs t u must R4 zs4 nn (some (i,s,k))∧zs4.length+U4≤2*nn∧2*U4+zs4.length<gk∧U4≤U3):=zH ⟨HK.out.2.1,HK.out.2.2.1,HK.out.2.2.2.1,HK.out.2.2.2.2.1⟩
    have QB:=zH qb
    obtain ⟨y0,y1⟩:=cells2e qb
    clear hwb bb hSa hl5 hCa hoa CALL HK qb
    go_upto_region 31 with fail
    rw [HWB.out]
    clear HWB
    by_cases h0:0<T0
    ·have hd3:decide (T0>0)=true:=by rw [decide_eq_true_eq];exact h0
     have hd4:decide (0<T0)=true:=by rw [decide_eq_true_eq];exact h0
     obtain ⟨mx2,hmx2⟩:∃mx2,max T0 s=mx2:=⟨_,rfl⟩
     have HMX2:=zH hmx2.symm
     have HT3:=zH h0
     have G0:Below wb.heap.size wb wb.drew:=(zB _ _).drew
     have bB:Below wb.heap.size wb (wb.drew.alloc (.cells #[.slice Al m cl',.slice A5 n5 c5] 37)):=G0.alloc G0.size _
     have HSB:=zH (HSb.out.below HOK.out bB)
     have CAT:=zH (cat2_any (Spot.Q ⟨w4.heap.size,g0,g1,g2,wq.heap.size,nn,Mb⟩ q v4) wb.heap.size 37 Al A5 m n5 cl' c5 _ (zW wb.drew (.cells #[.slice Al m cl',.slice A5 n5 c5] 37)) (HLK.out.kpt (Kpt.of_below bB) (fun _ _ h=>h)) (HL5.out.kpt (Kpt.of_below bB) (fun _ _ h=>h)) (by omega) (HSB.out.qnew HOK.out))
     have SE:Hid (∀W,Below wb.heap.size wb W→W.cell? ⟨wa.heap.size,0,none⟩=some (.int .i64 T0)∧W.cell? ⟨wa.heap.size,1,none⟩=some (.slice A5 n5 c5)):=zH (fun W hw=>cells2e ((hw.block _ lwa).trans QB.out))
     have SEB:Hid (∀W W',Below wb.heap.size wb W→Kpt (Spot.Q ⟨w4.heap.size,g0,g1,g2,wq.heap.size,nn,Mb⟩ q v4) W W'→W'.cell? ⟨wa.heap.size,0,none⟩=some (.int .i64 T0)∧W'.cell? ⟨wa.heap.size,1,none⟩=some (.slice A5 n5 c5)):=zH (fun W W' hw hk=>cells2e ((hk.block _ (Nat.lt_of_lt_of_le lwa hw.size) HQA.out).trans ((hw.block _ lwa).trans QB.out)))
     have RC:Hid (∀W A c,Below wb.heap.size wb W→LkO (Spot.Q ⟨w4.heap.size,g0,g1,g2,wq.heap.size,nn,Mb⟩ q v4) W A (m+n5) c→Calls Tryz.prog 164 #[.int .i64 (k:Int),.int .i64 mx2,.slice A (m+n5) c,.pointer (some ⟨w4.heap.size,0,none⟩),.pointer (some ⟨wq.heap.size,0,none⟩)] W (ReachAns ks fs ⟨w4.heap.size,g0,g1,g2,wq.heap.size,nn,Mb⟩ q w6 R4 zs4 U4 v4 k mx2 W)):=zH (fun W A c hw hl=>reach_any ks fs _ q w6 R4 zs4 U4 v4 W (HSb.out.below HOK.out hw) HOK.out k mx2 A (m+n5) c hlt hnb (by omega) (fun _=>hl) (fun _=>by have:=HR4.out;simp only;omega) (by have:=HR4.out;omega))
     clear HSB
     go_upto_region 32 with fail
     refine wp_region_held_drew (S:=fun W=>W.cell? ⟨wa.heap.size,0,none⟩=some (.int .i64 T0)∧W.cell? ⟨wa.heap.size,1,none⟩=some (.slice A5 n5 c5)) (by kernel_rfl) ?_ (fun hHeld=>?_)
     ·exact SE.out _ G0
     refine tk 0 ?_
     refine tk 1 ?_
     refine tk 2 ?_
     refine tk 3 ?_
     refine tk 4 ?_
     refine tk 5 ?_
     refine tk 6 ?_
     refine tk 7 ?_
     refine tk 8 ?_
     refine wpAnyH_ready (rs:=[9]) (by kernel_rfl) (by simp) ?_
     refine AllReadyH.cons rfl (fun K hK=>?_) ?_
     ·go_simp
      refine hK.out _ _ (SE.out _ bB) (fun hHeld=>nrm ?_)
      clear hK K
      refine wpAnyH_ready (rs:=[10]) (by kernel_rfl) (by simp) ?_
      refine AllReadyH.cons rfl (fun K hK=>?_) ?_
      ·go_simp
       go_at_call 165
       refine CAT.out.mono ?_
       rintro e wf ⟨⟨Af,cf,rfl,hlf⟩,bf'⟩
       have bf:=bB.trans (bf'.mono bB.size)
       have RCH:=zH (RC.out wf Af cf bf hlf)
       refine hK.out _ _ (SE.out _ bf) (fun hHeld=>nrm ?_)
       clear hK K
       refine wpAnyH_ready (rs:=[11]) (by kernel_rfl) (by simp) ?_
       refine AllReadyH.cons rfl (fun K hK=>?_) ?_
       ·go_simp
        go_at_call 164
        refine RCH.out.mono ?_
        rintro e wh ⟨rfl,R5,zs5,U5,v5,hS5,⟨hk5,hQ5⟩,hd5⟩
        have hlk5:=(HLK.out.kpt (Kpt.of_below bf) (fun _ _ h=>h)).kpt hk5 hQ5
        have HN:Hid (ChSt ks fs ⟨w4.heap.size,g0,g1,g2,wq.heap.size,nn,Mb⟩ q w6 R5 zs5 U5 v5 wh∧Lfc.SInv ks fs t u must R5 zs5 nn (some (i,s,k+1))∧zs5.length+U5≤2*nn∧2*U5+zs5.length<gk∧U5≤U3∧LkO (Spot.Q ⟨w4.heap.size,g0,g1,g2,wq.heap.size,nn,Mb⟩ q v5) wh Al m cl'):=zH (by
         obtain ⟨r1,r2,r3,r4⟩:=HR4.out
         obtain ⟨e1,e2,e3⟩:=r1.after_step hk2 HKI.out HT0.out HT3.out HMX2.out r2 hd5
         refine ⟨hS5,e1,e2,by omega,?_,hlk5⟩
         rcases hd5 with ⟨_,_,_,_,h⟩ | ⟨_,_,_,h⟩ <;> omega)
        clear hS5 hQ5 hd5 hlk5
        refine hK.out _ _ (SEB.out _ _ bf hk5) (fun hHeld=>nrm ?_)
        clear hK K
        clear hk5
        refine wpAnyH_done (by kernel_rfl) ?_ _
        go_wp2_with fail
        go_roundw
        case rel=>first | exact ⟨k+1,R5,zs5,U5,v5,by omega,by go_num,HN⟩ | ((repeat apply Exists.intro);exact ⟨⟨k+1,R5,zs5,U5,v5,by omega,by go_num,HN⟩,rfl⟩)
        case measure=>simp [intOf];omega
       exact AllReadyH.nil
      exact AllReadyH.nil
     exact AllReadyH.nil
    have hd3:decide (T0>0)=false:=by rw [decide_eq_false_iff_not];exact h0
    have hd4:decide (0<T0)=false:=by rw [decide_eq_false_iff_not];exact h0
    have HN:Hid (ChSt ks fs ⟨w4.heap.size,g0,g1,g2,wq.heap.size,nn,Mb⟩ q w6 R4 zs4 U4 v4 wb∧Lfc.SInv ks fs t u must R4 zs4 nn (some (i,s,k+1))∧zs4.length+U4≤2*nn∧2*U4+zs4.length<gk∧U4≤U3∧LkO (Spot.Q ⟨w4.heap.size,g0,g1,g2,wq.heap.size,nn,Mb⟩ q v4) wb Al m cl'):=zH ⟨HSb.out,HR4.out.1.skip (.inr (by rw [HT0.out];exact h0)),HR4.out.2.1,HR4.out.2.2.1,HR4.out.2.2.2,HLK.out⟩
    go_wp2_with fail
    go_roundw
    case rel=>first | exact ⟨k+1,R4,zs4,U4,v4,by omega,by go_num,HN⟩ | ((repeat apply Exists.intro);exact ⟨⟨k+1,R4,zs4,U4,v4,by omega,by go_num,HN⟩,rfl⟩)
    case measure=>simp [intOf];omega
   obtain rfl:nn=k:=by omega
   have HN:Hid (ChSt ks fs ⟨w4.heap.size,g0,g1,g2,wq.heap.size,nn,Mb⟩ q w6 R4 zs4 U4 v4 wr∧Lfc.SInv ks fs t u must R4 zs4 nn none∧zs4.length+U4≤2*nn∧2*U4+zs4.length≤2*U4+zs4.length):=zH ⟨HK.out.1,(by have h:=HK.out.2.1;rw [←HNN.out] at h ⊢;exact h.shut),HK.out.2.2.1,zN _⟩
   have HMS:Hid (2*U4+zs4.length<gk):=zH HK.out.2.2.2.1
   clear HK
   go_wp2_with fail
   go_roundg (2*U4+zs4.length)
   case rel=>exact ⟨R4,zs4,U4,v4,HN⟩
   case measure=>exact HMS.out
end Go.Proofs.YtadjpadieljjlaaGreat
