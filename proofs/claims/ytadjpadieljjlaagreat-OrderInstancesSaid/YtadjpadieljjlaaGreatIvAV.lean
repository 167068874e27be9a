/- Parts of the proof that no input makes the law false: OcAsk. -/
import Derived.Test.YtadjpadieljjlaaGreatIvAU
set_option linter.unusedVariables false
set_option linter.unusedSimpArgs false
set_option maxRecDepth 100000
set_option maxHeartbeats 32000000
namespace Go.Proofs.YtadjpadieljjlaaGreat
open Go.RowKit Go.Maps
attribute [local go_sem ↓] Go.wp_at_zero Go.wp_at_succ
theorem mAsk_any (T:Nat) (w:World) (hT:TapeI T w) :
  Calls Tryz.prog 8 #[.pointer (some ⟨T,0,none⟩)] w (AskAns w T):=by
 have hTw:=hT.lt
 obtain ⟨i0,hi,hz0,hz1,hz2⟩:=info_parts termInfo
 obtain ⟨iF,hiF,hF0,hF1,hF2⟩:=info_parts factInfo
 obtain ⟨w1,hw1⟩:∃w1,w.alloc (.cells #[.slice none 0 0,.int .i64 0,.int .i64 0,.int .i64 0,.slice none 0 0,.int .i64 0,.int .i64 0,.slice none 0 0,.slice none 0 0,.slice none 0 0,.slice none 0 0] 29)=w1:=⟨_,rfl⟩
 have b1:=zG hw1
 have q1:=zQ hw1
 have l1:=zL q1
 have B1:=zH b1
 have Q1:=zH q1
 have T1:=zH (hT.below b1)
 clear hT b1 q1
 go_enter Tryz.func8,Tryz.ntmps8
 go_wp2_with fail
 clear hw1
 refine (mKinds_any T w1 T1.out).mono ?_
 rintro e wa ⟨ks,A0,c0,rfl,hkl,hK⟩
 obtain ⟨nk,hnk⟩:∃nk,ks.length=nk:=⟨_,rfl⟩
 have HNK:=zH hnk
 rw [hnk] at hkl ⊢
 obtain ⟨w4,hw4⟩:∃w4,wa.alloc (.cells #[.int .i64 1,.int .i64 2,.int .i64 3] 3)=w4:=⟨_,rfl⟩
 have b4:=zG hw4
 have q4:=zQ hw4
 have KS:=zH hK.ints
 have O4:Hid (Oth T w1 w4):=zH (hK.oth.trans (Oth.of_below b4))
 have T4:=zH (hK.tape.below b4)
 have B4:=zH b4
 have Q4:=zH q4
 have s1a:=hK.oth.size
 have s4:=b4.size
 clear b4 q4 hK hnk
 go_wp2_with fail
 refine (tapeI_next T 3 w4 (by omega) (by omega) T4.out).mono ?_
 rintro e w5 ⟨⟨r0,hr0,rfl⟩,T5',o5'⟩
 have hwaT:wa.heap.size≠T:=by omega
 have l4:=zL Q4.out
 have yr:w5.cell? ⟨wa.heap.size,r0,none⟩=some (.int .i64 ((r0:Int)+1)):=by
  refine (o5'.cell (p:=⟨wa.heap.size,r0,none⟩) l4 hwaT).trans ?_
  match r0,hr0 with
  | 0,_=>exact zC Q4.out 0
  | 1,_=>exact zC Q4.out 1
  | 2,_=>exact zC Q4.out 2
 obtain ⟨rel,hrel⟩:∃rel:Int,(r0:Int)+1=rel:=⟨_,rfl⟩
 rw [hrel] at yr
 have HREL:Hid (rel=1∨rel=2∨rel=3):=zH (by omega)
 have hr1:(0:Int)≤(r0:Int):=by omega
 have hr2:(r0:Int)<3:=by omega
 obtain ⟨w6,hw6⟩:∃w6,w5.alloc (.cells #[.slice none 0 0,.int .i64 rel,.int .i64 0,.int .i64 0,.slice none 0 0,.int .i64 0,.int .i64 0,.slice none 0 0,.slice none 0 0,.slice none 0 0,.slice A0 nk c0] 29)=w6:=⟨_,rfl⟩
 have b6:=zG hw6
 have q6:=zQ hw6
 have s5:=o5'.size
 have hQ3:=zL q6
 have hQ0:w.heap.size<w5.heap.size:=by omega
 have O6:Hid (Oth T w w6):=zH (((Oth.of_below B1.out).trans O4.out).trans (o5'.trans (Oth.of_below b6)))
 have A6:Hid (As1 w w6 T w5.heap.size rel A0 nk c0 ks 0 [] [] none 0 none 0 w6):=zH {
  blk:=q6
  lt:=rfl
  lu:=rfl
  rows:=⟨[],[],World.ownsRow_nil w6 w6.heap.size _ 4,World.ownsRow_nil w6 w6.heap.size _ 4,by rw [RowP],by rw [RowP]⟩
  dj:=fun b hb=>by simp [Value.ownBlock] at hb
  ks:=KS.out.keep (fun b hb hlt=>(b6.block b (by omega)).trans ((o5'.block b (by omega) (fun e=>by have:=zO e;have hb:w1.heap.size≤b:=hb;omega)).trans (B4.out.block b hlt))) (by have:=b6.size;omega) (fun b hlt hb=>by have hb:w1.heap.size≤b:=hb;exact ⟨by omega,by omega,by omega⟩)
  tape:=T5'.below b6
  oth:=O6.out
  size:=zN _
  zt:=fun t h=>by cases h
  zu:=fun t h=>by cases h
  res:=(b6.block _ (by omega)).trans ((o5'.heap (O4.out.heap Q1.out (by omega)) (by omega))) }
 have HW6:=zH hw6
 clear hw6 b6 q6 T5' o5' KS O4 T4 B4 Q4 T1 hrel
 go_upto_region 2 with fail
 rw [HW6.out]
 clear HW6 yr hw4
 go_wp2_with fail
 refine (tapeI_next T 3 w6 (by omega) (by omega) A6.out.tape).mono ?_
 rintro e w7 ⟨⟨r1,hr1,rfl⟩,T7',o7'⟩
 have A7:=zH (A6.out.othT hTw hQ0 hQ3 o7' T7')
 have hwn:IntKind.i64.wrap (1+(r1:Int))=((r1+1:Nat):Int):=by rw [IntWalk.i64_in _ (by omega)];omega
 obtain ⟨n,hn⟩:∃n,r1+1=n:=⟨_,rfl⟩
 rw [hn] at hwn
 have hn1:1≤n∧n≤3:=by omega
 have z10:=(zC A7.out.blk 10:w7.cell? ⟨w5.heap.size,10,none⟩=some (.slice A0 nk c0))
 clear T7' o7' hn A6
 go_upto_block 0 with fail
 clear z10
 go_wp2_with fail
 go_loopw [6] (fun i wr=>∃ (k:Nat) (ts us:List Lfc.Raw) (AL:Option Addr) (cl:Nat) (AR:Option Addr) (cr:Nat),k≤n∧i=.int .i64 (k:Int)∧Hid (As1 w w6 T w5.heap.size rel A0 nk c0 ks k ts us AL cl AR cr wr)) (fun i _=>n-(intOf i).toNat)
 case atStart=>exact ⟨0,[],[],none,0,none,0,by omega,rfl,A7⟩
 clear A7 hwn
 obtain ⟨k,ts,us,AL,cl,AR,cr,hk,rfl,HI⟩:=hrel
 by_cases hlt:k<n
 ·have hlt1:(k:Int)<(n:Int):=by omega
  have hd1:decide ((k:Int)<(n:Int))=true:=by rw [decide_eq_true_eq];exact hlt1
  have z10:=(zC HI.out.blk 10:wr.cell? ⟨w5.heap.size,10,none⟩=some (.slice A0 nk c0))
  have CP:Hid (Calls Tryz.prog 18 #[.pointer (some ⟨T,0,none⟩),.slice A0 nk c0] wr (PairAns wr T 40)):=zH (by
   have:=mPair_any T ks A0 c0 wr (by rw [HNK.out];omega) HI.out.tape
   rwa [HNK.out] at this)
  have hQw:=zL HI.out.blk
  have hsw:=HI.out.size
  go_wp2_with fail
  refine CP.out.mono ?_
  rintro e w8 ⟨⟨x,u,vx,vu,rfl,hx,hu,hzx,hzu,hgu⟩,T8,o8⟩
  obtain ⟨kx,nx,px,xs,hxe⟩:=Lfc.Raw.ex x
  rw [hxe] at hx hzx
  obtain ⟨Ax,cx,rfl,hPx⟩:=hx.openT
  obtain ⟨ku,nu,pu,us',hue⟩:=Lfc.Raw.ex u
  rw [hue] at hu hzu hgu
  obtain ⟨Au,cu,rfl,hPu⟩:=hu.openT
  have s8:=o8.size
  obtain ⟨w9,hw9⟩:∃w9,(w8.alloc (.cells #[.int .i64 kx,S nx,.int .i64 px,.slice Ax xs.length cx] 51)).alloc (.cells #[.int .i64 ku,S nu,.int .i64 pu,.slice Au us'.length cu] 51)=w9:=⟨_,rfl⟩
  have b9:Below w8.heap.size w8 w9:=by rw [←hw9];exact ((zB _ _).alloc (zN _) _).alloc (by simp) _
  have q9x:w9.heap[w8.heap.size]?=some (.cells #[.int .i64 kx,S nx,.int .i64 px,.slice Ax xs.length cx] 51 (0,0)):=by rw [←hw9];exact (zA _ _ _ (by simp)).trans (zW _ _)
  have q9u:w9.heap[w8.heap.size+1]?=some (.cells #[.int .i64 ku,S nu,.int .i64 pu,.slice Au us'.length cu] 51 (0,0)):=by
   rw [←hw9]
   have:=zW (w8.alloc (.cells #[.int .i64 kx,S nx,.int .i64 px,.slice Ax xs.length cx] 51)) (.cells #[.int .i64 ku,S nu,.int .i64 pu,.slice Au us'.length cu] 51)
   simpa using this
  have hnew:∀b,wr.heap.size≤b→(w6.heap.size≤b∧(Value.slice AL k cl).ownBlock≠some b∧(Value.slice AR k cr).ownBlock≠some b):=fun b hb=>by
   obtain ⟨xL,xR,h1,h2,_⟩:=HI.out.rows
   exact ⟨by omega,fun e=>by have:=(h1.lt b e).2;omega,fun e=>by have:=(h2.lt b e).2;omega⟩
  have T9:=zH (T8.below b9)
  have O8:=zH o8
  have B9:=zH b9
  have HNEW:=zH hnew
  have HNB:Hid (((Value.slice AL k cl).ownBlock≠some w8.heap.size∧(Value.slice AR k cr).ownBlock≠some w8.heap.size)∧((Value.slice AL k cl).ownBlock≠some (w8.heap.size+1)∧(Value.slice AR k cr).ownBlock≠some (w8.heap.size+1))):=zH ⟨(hnew _ s8).2,(hnew _ (Nat.le_succ_of_le s8)).2⟩
  have V8x:=zH hx
  have V8u:=zH hu
  have HZX:=zH hzx
  have HZU:Hid (Lfc.good (.node ku nu pu us')):=zH ⟨hzu,hgu⟩
  have Q9x:=zH q9x
  have Q9u:=zH q9u
  have H9:=zH hw9
  clear hx hu hPx hPu hzx hzu hgu T8 o8 hw9 b9 q9x q9u hnew hxe hue z10 CP
  go_upto_region 8 with fail
  rw [H9.out]
  clear H9
  go_wp2_with fail
  refine (tapeI_next T 4 w9 (by omega) (by omega) T9.out).mono ?_
  rintro e w10 ⟨⟨r2,hr2,rfl⟩,T10,o10⟩
  have OT10:Hid (Oth T w8 w10):=zH ((Oth.of_below B9.out).trans o10)
  have T10h:=zH T10
  have ne8:w8.heap.size≠T:=by omega
  have ne9:w8.heap.size+1≠T:=by omega
  have Q10x:=zH (o10.heap Q9x.out ne8)
  have Q10u:=zH (o10.heap Q9u.out ne9)
  have s10:=o10.size
  have GO:Hid (∀wx,Oth T wr wx→TapeI T wx→(∀b,b<w8.heap.size→b≠T→wx.heap[b]?=w8.heap[b]?)→w8.heap.size≤wx.heap.size→As1 w w6 T w5.heap.size rel A0 nk c0 ks k ts us AL cl AR cr wx∧TreeVP (fun b=>w6.heap.size≤b∧(Value.slice AL k cl).ownBlock≠some b∧(Value.slice AR k cr).ownBlock≠some b) wx (.node kx nx px xs) (.agg #[.int .i64 kx,S nx,.int .i64 px,.slice Ax xs.length cx])∧TreeVP (fun b=>w6.heap.size≤b∧(Value.slice AL k cl).ownBlock≠some b∧(Value.slice AR k cr).ownBlock≠some b) wx (.node ku nu pu us') (.agg #[.int .i64 ku,S nu,.int .i64 pu,.slice Au us'.length cu])):=zH (fun wx ho ht hk hsx=>⟨HI.out.othT hTw hQ0 hQ3 ho ht,V8x.out.keep (fun b hb hlt=>hk b hlt (by have hb:wr.heap.size≤b:=hb;omega)) hsx (fun b _ hb=>HNEW.out b hb),V8u.out.keep (fun b hb hlt=>hk b hlt (by have hb:wr.heap.size≤b:=hb;omega)) hsx (fun b _ hb=>HNEW.out b hb)⟩)
  clear T10 o10 T9 B9 HNEW V8x V8u Q9x Q9u
  go_upto_if 39 with fail
  go_cut [] (fun wx=>Hid (∃kx nx px xs Ax cx,As1 w w6 T w5.heap.size rel A0 nk c0 ks k ts us AL cl AR cr wx∧wx.heap[w8.heap.size]?=some (.cells #[.int .i64 kx,S nx,.int .i64 px,.slice Ax (List.length xs) cx] 51 (0,0))∧wx.heap[w8.heap.size+1]?=some (.cells #[.int .i64 ku,S nu,.int .i64 pu,.slice Au us'.length cu] 51 (0,0))∧TreeVP (fun b=>w6.heap.size≤b∧(Value.slice AL k cl).ownBlock≠some b∧(Value.slice AR k cr).ownBlock≠some b) wx (.node kx nx px xs) (.agg #[.int .i64 kx,S nx,.int .i64 px,.slice Ax (List.length xs) cx])∧TreeVP (fun b=>w6.heap.size≤b∧(Value.slice AL k cl).ownBlock≠some b∧(Value.slice AR k cr).ownBlock≠some b) wx (.node ku nu pu us') (.agg #[.int .i64 ku,S nu,.int .i64 pu,.slice Au us'.length cu])∧(Lfc.Raw.node kx nx px xs).size≤40∧((Value.slice AL k cl).ownBlock≠some w8.heap.size∧(Value.slice AR k cr).ownBlock≠some w8.heap.size)∧((Value.slice AL k cl).ownBlock≠some (w8.heap.size+1)∧(Value.slice AR k cr).ownBlock≠some (w8.heap.size+1))))
  case first =>
   by_cases hr0':r2=0
   ·subst hr0'
    obtain ⟨y0,y1,y2,y3⟩:=cells4v Q10u.out
    obtain ⟨s1,s2,s3,s4',g1,g2,g3,g4,⟨x0,x1,x2,x3⟩,⟨f0,f1,f2,f3⟩,hq4,hot⟩:=put4 Q10x.out (.int .i64 ku) (S nu) (.int .i64 pu) (.slice Au us'.length cu)
    have HC:Hid (∃kx nx px xs Ax cx,As1 w w6 T w5.heap.size rel A0 nk c0 ks k ts us AL cl AR cr s4'∧s4'.heap[w8.heap.size]?=some (.cells #[.int .i64 kx,S nx,.int .i64 px,.slice Ax (List.length xs) cx] 51 (0,0))∧s4'.heap[w8.heap.size+1]?=some (.cells #[.int .i64 ku,S nu,.int .i64 pu,.slice Au us'.length cu] 51 (0,0))∧TreeVP (fun b=>w6.heap.size≤b∧(Value.slice AL k cl).ownBlock≠some b∧(Value.slice AR k cr).ownBlock≠some b) s4' (.node kx nx px xs) (.agg #[.int .i64 kx,S nx,.int .i64 px,.slice Ax (List.length xs) cx])∧TreeVP (fun b=>w6.heap.size≤b∧(Value.slice AL k cl).ownBlock≠some b∧(Value.slice AR k cr).ownBlock≠some b) s4' (.node ku nu pu us') (.agg #[.int .i64 ku,S nu,.int .i64 pu,.slice Au us'.length cu])∧(Lfc.Raw.node kx nx px xs).size≤40∧((Value.slice AL k cl).ownBlock≠some w8.heap.size∧(Value.slice AR k cr).ownBlock≠some w8.heap.size)∧((Value.slice AL k cl).ownBlock≠some (w8.heap.size+1)∧(Value.slice AR k cr).ownBlock≠some (w8.heap.size+1))):=zH (by
     have h8:Oth T w8 s4':=oth_put OT10.out hot (zN _)
     obtain ⟨h1,h2,h3⟩:=GO.out s4' (O8.out.trans h8) (T10h.out.oth (by omega) hot) (fun b hb hn=>h8.block b hb (fun e=>hn (zO e))) h8.size
     exact ⟨ku,nu,pu,us',Au,cu,h1,hq4,hot.heap Q10u.out (by omega),h3,h3,HZU.out.1,HNB.out⟩)
    clear hq4 hot
    go_wp2_with fail
    go_meet
    exact HC
   have hr21:((r2:Int) == 0)=false:=by simp;omega
   clear hr0'
   have HC:=zH (show (∃kx nx px xs Ax cx,As1 w w6 T w5.heap.size rel A0 nk c0 ks k ts us AL cl AR cr w10∧w10.heap[w8.heap.size]?=some (.cells #[.int .i64 kx,S nx,.int .i64 px,.slice Ax (List.length xs) cx] 51 (0,0))∧w10.heap[w8.heap.size+1]?=some (.cells #[.int .i64 ku,S nu,.int .i64 pu,.slice Au us'.length cu] 51 (0,0))∧TreeVP (fun b=>w6.heap.size≤b∧(Value.slice AL k cl).ownBlock≠some b∧(Value.slice AR k cr).ownBlock≠some b) w10 (.node kx nx px xs) (.agg #[.int .i64 kx,S nx,.int .i64 px,.slice Ax (List.length xs) cx])∧TreeVP (fun b=>w6.heap.size≤b∧(Value.slice AL k cl).ownBlock≠some b∧(Value.slice AR k cr).ownBlock≠some b) w10 (.node ku nu pu us') (.agg #[.int .i64 ku,S nu,.int .i64 pu,.slice Au us'.length cu])∧(Lfc.Raw.node kx nx px xs).size≤40∧((Value.slice AL k cl).ownBlock≠some w8.heap.size∧(Value.slice AR k cr).ownBlock≠some w8.heap.size)∧((Value.slice AL k cl).ownBlock≠some (w8.heap.size+1)∧(Value.slice AR k cr).ownBlock≠some (w8.heap.size+1))) from (by
    obtain ⟨h1,h2,h3⟩:=GO.out w10 (O8.out.trans OT10.out) T10h.out (fun b hb hn=>OT10.out.block b hb (fun e=>hn (zO e))) OT10.out.size
    exact ⟨kx,nx,px,xs,Ax,cx,h1,Q10x.out,Q10u.out,h2,h3,HZX.out,HNB.out⟩))
   go_wp2_with fail
   go_meet
   exact HC
  obtain ⟨kx,nx,px,xs,Ax,cx,hA,hqx,hqu,hvx,hvu,hzx,n7,n8⟩:=hcut.out
  clear hcut Q10x Q10u HZX GO OT10 O8 T10h HI
  obtain ⟨xL,xR,hrL,hrR,hpL,hpR⟩:=hA.rows
  have M00:=Mid.start hrL hrR hA.dj
  obtain ⟨_,_,_,_,e,hTX⟩:=hvx
  cases e
  obtain ⟨_,_,_,_,e,hTU⟩:=hvu
  cases e
  have HTX:=zH hTX
  have HTU:=zH hTU
  have HZX:=zH hzx
  have HRL:=zH hpL
  have HRR:=zH hpR
  have HQB:=zH hA.blk
  have lQ:=zL hA.blk
  have l7:=zL hqx
  have l8:=zL hqu
  have n7Q:w8.heap.size≠w5.heap.size:=by omega
  have n8Q:w8.heap.size+1≠w5.heap.size:=by omega
  have hsz:=hA.size
  have nQ:(Value.slice AL k cl).ownBlock≠some w5.heap.size∧(Value.slice AR k cr).ownBlock≠some w5.heap.size:=⟨fun e=>by have:=(hrL.lt _ e).1;omega,fun e=>by have:=(hrR.lt _ e).1;omega⟩
  have QB:Hid (∀W:World,W.heap[w5.heap.size]?=wc.heap[w5.heap.size]?→W.cell? ⟨w5.heap.size,8,none⟩=some (.slice AL k cl)∧W.cell? ⟨w5.heap.size,9,none⟩=some (.slice AR k cr)):=zH (fun W hW=>by
   have e:=hW.trans HQB.out
   exact ⟨zC e 8,zC e 9⟩)
  have SC:Hid (∀W:World,W.heap[w8.heap.size]?=wc.heap[w8.heap.size]?∧W.heap[w8.heap.size+1]?=wc.heap[w8.heap.size+1]?→(W.cell? ⟨w8.heap.size,0,none⟩=some (.int .i64 kx)∧W.cell? ⟨w8.heap.size,1,none⟩=some (S nx)∧W.cell? ⟨w8.heap.size,2,none⟩=some (.int .i64 px)∧W.cell? ⟨w8.heap.size,3,none⟩=some (.slice Ax xs.length cx))∧(W.cell? ⟨w8.heap.size+1,0,none⟩=some (.int .i64 ku)∧W.cell? ⟨w8.heap.size+1,1,none⟩=some (S nu)∧W.cell? ⟨w8.heap.size+1,2,none⟩=some (.int .i64 pu)∧W.cell? ⟨w8.heap.size+1,3,none⟩=some (.slice Au us'.length cu))):=zH (fun W ⟨h7,h8⟩=>⟨cells4v (h7.trans hqx),cells4v (h8.trans hqu)⟩)
  have SK:Hid (∀ {W:World},(∀b,b<wc.heap.size→(Value.slice AL k cl).ownBlock≠some b→(Value.slice AR k cr).ownBlock≠some b→W.heap[b]?=wc.heap[b]?)→W.heap[w8.heap.size]?=wc.heap[w8.heap.size]?∧W.heap[w8.heap.size+1]?=wc.heap[w8.heap.size+1]?):=zH (fun h=>⟨h _ l7 n7.1 n7.2,h _ l8 n8.1 n8.2⟩)
  have hlm:k+1≤maxLen:=by unfold maxLen;omega
  have hl56:(k+1)*56≤140737488355328:=by omega
  have HS:=zH hA
  clear hA hpL hpR hTX hTU hzx hqx hqu hrL hrR
  go_upto_region 10 with fail
  refine wp_region_held_drew (S:=fun W=>(W.cell? ⟨w8.heap.size,0,none⟩=some (.int .i64 kx)∧W.cell? ⟨w8.heap.size,1,none⟩=some (S nx)∧W.cell? ⟨w8.heap.size,2,none⟩=some (.int .i64 px)∧W.cell? ⟨w8.heap.size,3,none⟩=some (.slice Ax xs.length cx))∧(W.cell? ⟨w8.heap.size+1,0,none⟩=some (.int .i64 ku)∧W.cell? ⟨w8.heap.size+1,1,none⟩=some (S nu)∧W.cell? ⟨w8.heap.size+1,2,none⟩=some (.int .i64 pu)∧W.cell? ⟨w8.heap.size+1,3,none⟩=some (.slice Au us'.length cu))) (by kernel_rfl) ?_ (fun hHeld=>?_)
  ·exact SC.out _ ⟨rfl,rfl⟩
  have M:=M00
  clear M00
  apply shareA
  intro LAST20
  apply shareA
  intro LAST19
  apply shareA
  intro LAST18
  apply shareA
  intro LAST17
  apply shareA
  intro LAST16
  apply shareA
  intro LAST15
  apply shareA
  intro LAST14
  apply shareA
  intro LAST13
  apply shareA
  intro LAST12
  apply shareA
  intro LAST11
  apply shareA
  intro LAST10
  apply shareA
  intro LAST9
  apply shareA
  intro LAST8
  apply shareA
  intro LAST7
  apply shareA
  intro LAST6
  apply shareA
  intro LAST5
  apply shareA
  intro LAST4
  apply shareA
  intro LAST3
  apply shareA
  intro LAST2
  apply shareA
  intro LAST1
  obtain ⟨AL',AR',cL',cR',ga,gb,-⟩:∃ (_ _:Option Addr) (_ _ _ _:Nat),True:=⟨none,none,0,0,0,0,trivial⟩
  obtain ⟨wz,hwz⟩:∃wz,wc.drew=wz:=⟨_,rfl⟩
  rw [hwz] at M hHeld ⊢
  clear hwz
  refine tk 0 ?_
  refine tk 2 ?_
  refine tk 5 ?_
  refine tk 7 ?_
  refine rd4 1 3 6 8 (fun K hK=>?_) (fun K hK=>?_) (fun K hK=>?_) (fun K hK=>?_)
  ·obtain ⟨z8,z9⟩:=QB.out _ (M.keep _ lQ nQ.1 nQ.2)
   go_simp
   refine hK.out _ _ (SC.out _ (SK.out M.keep)) (fun hHeld=>nrm ?_)
   clear hK K
   clear z8 z9
   exact LAST1 AL' AR' cL' cR' ga gb wz M
  ·have Ea:=Ext.new M #[.int .i64 kx,S nx,.int .i64 px,.slice Ax xs.length cx] 51
   have M:=M.alloc (.cells #[.int .i64 kx,S nx,.int .i64 px,.slice Ax xs.length cx] 51)
   go_simp
   refine hK.out _ _ (SC.out _ (SK.out M.keep)) (fun hHeld=>nrm ?_)
   clear hK K
   obtain ⟨w2,hwA⟩:∃w2,wz.alloc (.cells #[.int .i64 kx,S nx,.int .i64 px,.slice Ax xs.length cx] 51)=w2:=⟨_,rfl⟩
   rw [hwA] at M Ea hHeld ⊢
   clear hwA
   obtain ⟨ga,hg⟩:∃g,wz.heap.size=g:=⟨_,rfl⟩
   rw [hg] at Ea ⊢
   exact LAST2 AL' AR' cL' cR' ga gb w2 (And.intro M Ea)
  ·obtain ⟨z8,z9⟩:=QB.out _ (M.keep _ lQ nQ.1 nQ.2)
   go_simp
   refine hK.out _ _ (SC.out _ (SK.out M.keep)) (fun hHeld=>nrm ?_)
   clear hK K
   clear z8 z9
   exact LAST3 AL' AR' cL' cR' ga gb wz M
  have Eb:=Ext.new M #[.int .i64 ku,S nu,.int .i64 pu,.slice Au us'.length cu] 51
  have M:=M.alloc (.cells #[.int .i64 ku,S nu,.int .i64 pu,.slice Au us'.length cu] 51)
  go_simp
  refine hK.out _ _ (SC.out _ (SK.out M.keep)) (fun hHeld=>nrm ?_)
  clear hK K
  obtain ⟨w2,hwA⟩:∃w2,wz.alloc (.cells #[.int .i64 ku,S nu,.int .i64 pu,.slice Au us'.length cu] 51)=w2:=⟨_,rfl⟩
  rw [hwA] at M Eb hHeld ⊢
  clear hwA
  obtain ⟨gb,hg⟩:∃g,wz.heap.size=g:=⟨_,rfl⟩
  rw [hg] at Eb ⊢
  exact LAST4 AL' AR' cL' cR' ga gb w2 (And.intro M Eb)
  rintro AL' AR' cL' cR' ga gb wz M
  refine rd3 3 6 8 (fun K hK=>?_) (fun K hK=>?_) (fun K hK=>?_)
  ·have Ea:=Ext.new M #[.int .i64 kx,S nx,.int .i64 px,.slice Ax xs.length cx] 51
   have M:=M.alloc (.cells #[.int .i64 kx,S nx,.int .i64 px,.slice Ax xs.length cx] 51)
   go_simp
   refine hK.out _ _ (SC.out _ (SK.out M.keep)) (fun hHeld=>nrm ?_)
   clear hK K
   obtain ⟨w2,hwA⟩:∃w2,wz.alloc (.cells #[.int .i64 kx,S nx,.int .i64 px,.slice Ax xs.length cx] 51)=w2:=⟨_,rfl⟩
   rw [hwA] at M Ea hHeld ⊢
   clear hwA
   obtain ⟨ga,hg⟩:∃g,wz.heap.size=g:=⟨_,rfl⟩
   rw [hg] at Ea ⊢
   exact LAST5 AL' AR' cL' cR' ga gb w2 (And.intro M Ea)
  ·obtain ⟨z8,z9⟩:=QB.out _ (M.keep _ lQ nQ.1 nQ.2)
   go_simp
   refine hK.out _ _ (SC.out _ (SK.out M.keep)) (fun hHeld=>nrm ?_)
   clear hK K
   clear z8 z9
   exact LAST6 AL' AR' cL' cR' ga gb wz M
  have Eb:=Ext.new M #[.int .i64 ku,S nu,.int .i64 pu,.slice Au us'.length cu] 51
  have M:=M.alloc (.cells #[.int .i64 ku,S nu,.int .i64 pu,.slice Au us'.length cu] 51)
  go_simp
  refine hK.out _ _ (SC.out _ (SK.out M.keep)) (fun hHeld=>nrm ?_)
  clear hK K
  obtain ⟨w2,hwA⟩:∃w2,wz.alloc (.cells #[.int .i64 ku,S nu,.int .i64 pu,.slice Au us'.length cu] 51)=w2:=⟨_,rfl⟩
  rw [hwA] at M Eb hHeld ⊢
  clear hwA
  obtain ⟨gb,hg⟩:∃g,wz.heap.size=g:=⟨_,rfl⟩
  rw [hg] at Eb ⊢
  exact LAST7 AL' AR' cL' cR' ga gb w2 (And.intro M Eb)
  rintro AL' AR' cL' cR' ga gb wz ⟨M,Ea⟩
  refine rd3 1 6 8 (fun K hK=>?_) (fun K hK=>?_) (fun K hK=>?_)
  ·obtain ⟨z8,z9⟩:=QB.out _ (M.keep _ lQ nQ.1 nQ.2)
   go_simp
   refine hK.out _ _ (SC.out _ (SK.out M.keep)) (fun hHeld=>nrm ?_)
   clear hK K
   clear z8 z9
   exact LAST5 AL' AR' cL' cR' ga gb wz (And.intro M Ea)
  ·obtain ⟨z8,z9⟩:=QB.out _ (M.keep _ lQ nQ.1 nQ.2)
   go_simp
   refine hK.out _ _ (SC.out _ (SK.out M.keep)) (fun hHeld=>nrm ?_)
   clear hK K
   clear z8 z9
   exact LAST8 AL' AR' cL' cR' ga gb wz (And.intro M Ea)
  have Eb:=Ext.new M #[.int .i64 ku,S nu,.int .i64 pu,.slice Au us'.length cu] 51
  have M:=M.alloc (.cells #[.int .i64 ku,S nu,.int .i64 pu,.slice Au us'.length cu] 51)
  have Ea:=Ea.alloc (.cells #[.int .i64 ku,S nu,.int .i64 pu,.slice Au us'.length cu] 51)
  go_simp
  refine hK.out _ _ (SC.out _ (SK.out M.keep)) (fun hHeld=>nrm ?_)
  clear hK K
  obtain ⟨w2,hwA⟩:∃w2,wz.alloc (.cells #[.int .i64 ku,S nu,.int .i64 pu,.slice Au us'.length cu] 51)=w2:=⟨_,rfl⟩
  rw [hwA] at M Ea Eb hHeld ⊢
  clear hwA
  obtain ⟨gb,hg⟩:∃g,wz.heap.size=g:=⟨_,rfl⟩
  rw [hg] at Eb ⊢
  exact LAST9 AL' AR' cL' cR' ga gb w2 (And.intro M (And.intro Ea Eb))
  rintro AL' AR' cL' cR' ga gb wz M
  refine rd3 1 3 8 (fun K hK=>?_) (fun K hK=>?_) (fun K hK=>?_)
  ·obtain ⟨z8,z9⟩:=QB.out _ (M.keep _ lQ nQ.1 nQ.2)
   go_simp
   refine hK.out _ _ (SC.out _ (SK.out M.keep)) (fun hHeld=>nrm ?_)
   clear hK K
   clear z8 z9
   exact LAST6 AL' AR' cL' cR' ga gb wz M
  ·have Ea:=Ext.new M #[.int .i64 kx,S nx,.int .i64 px,.slice Ax xs.length cx] 51
   have M:=M.alloc (.cells #[.int .i64 kx,S nx,.int .i64 px,.slice Ax xs.length cx] 51)
   go_simp
   refine hK.out _ _ (SC.out _ (SK.out M.keep)) (fun hHeld=>nrm ?_)
   clear hK K
   obtain ⟨w2,hwA⟩:∃w2,wz.alloc (.cells #[.int .i64 kx,S nx,.int .i64 px,.slice Ax xs.length cx] 51)=w2:=⟨_,rfl⟩
   rw [hwA] at M Ea hHeld ⊢
   clear hwA
   obtain ⟨ga,hg⟩:∃g,wz.heap.size=g:=⟨_,rfl⟩
   rw [hg] at Ea ⊢
   exact LAST8 AL' AR' cL' cR' ga gb w2 (And.intro M Ea)
  have Eb:=Ext.new M #[.int .i64 ku,S nu,.int .i64 pu,.slice Au us'.length cu] 51
  have M:=M.alloc (.cells #[.int .i64 ku,S nu,.int .i64 pu,.slice Au us'.length cu] 51)
  go_simp
  refine hK.out _ _ (SC.out _ (SK.out M.keep)) (fun hHeld=>nrm ?_)
  clear hK K
  obtain ⟨w2,hwA⟩:∃w2,wz.alloc (.cells #[.int .i64 ku,S nu,.int .i64 pu,.slice Au us'.length cu] 51)=w2:=⟨_,rfl⟩
  rw [hwA] at M Eb hHeld ⊢
  clear hwA
  obtain ⟨gb,hg⟩:∃g,wz.heap.size=g:=⟨_,rfl⟩
  rw [hg] at Eb ⊢
  exact LAST10 AL' AR' cL' cR' ga gb w2 (And.intro M Eb)
  rintro AL' AR' cL' cR' ga gb wz ⟨M,Eb⟩
  refine rd3 1 3 6 (fun K hK=>?_) (fun K hK=>?_) (fun K hK=>?_)
  ·obtain ⟨z8,z9⟩:=QB.out _ (M.keep _ lQ nQ.1 nQ.2)
   go_simp
   refine hK.out _ _ (SC.out _ (SK.out M.keep)) (fun hHeld=>nrm ?_)
   clear hK K
   clear z8 z9
   exact LAST7 AL' AR' cL' cR' ga gb wz (And.intro M Eb)
  ·have Ea:=Ext.new M #[.int .i64 kx,S nx,.int .i64 px,.slice Ax xs.length cx] 51
   have M:=M.alloc (.cells #[.int .i64 kx,S nx,.int .i64 px,.slice Ax xs.length cx] 51)
   have Eb:=Eb.alloc (.cells #[.int .i64 kx,S nx,.int .i64 px,.slice Ax xs.length cx] 51)
   go_simp
   refine hK.out _ _ (SC.out _ (SK.out M.keep)) (fun hHeld=>nrm ?_)
   clear hK K
   obtain ⟨w2,hwA⟩:∃w2,wz.alloc (.cells #[.int .i64 kx,S nx,.int .i64 px,.slice Ax xs.length cx] 51)=w2:=⟨_,rfl⟩
   rw [hwA] at M Eb Ea hHeld ⊢
   clear hwA
   obtain ⟨ga,hg⟩:∃g,wz.heap.size=g:=⟨_,rfl⟩
   rw [hg] at Ea ⊢
   exact LAST9 AL' AR' cL' cR' ga gb w2 (And.intro M (And.intro Ea Eb))
  obtain ⟨z8,z9⟩:=QB.out _ (M.keep _ lQ nQ.1 nQ.2)
  go_simp
  refine hK.out _ _ (SC.out _ (SK.out M.keep)) (fun hHeld=>nrm ?_)
  clear hK K
  clear z8 z9
  exact LAST10 AL' AR' cL' cR' ga gb wz (And.intro M Eb)
  rintro AL' AR' cL' cR' ga gb wz ⟨M,Ea⟩
  refine rd3 4 6 8 (fun K hK=>?_) (fun K hK=>?_) (fun K hK=>?_)
  ·refine apT [.int .i64 kx,S nx,.int .i64 px,.slice Ax xs.length cx] M.L (fun j u h=>Ea.cells j u h) oneCellT hlm hl56 (Nat.le_trans hsz M.size) ?_
   intro AL' cL' w2 hown hg hloc
   have M:=M.appL hown hg hloc
   refine hK.out _ _ (SC.out _ (SK.out M.keep)) (fun hHeld=>nrm ?_)
   clear hK K
   clear hown hg hloc
   exact LAST11 AL' AR' cL' cR' ga gb w2 M
  ·obtain ⟨z8,z9⟩:=QB.out _ (M.keep _ lQ nQ.1 nQ.2)
   go_simp
   refine hK.out _ _ (SC.out _ (SK.out M.keep)) (fun hHeld=>nrm ?_)
   clear hK K
   clear z8 z9
   exact LAST12 AL' AR' cL' cR' ga gb wz (And.intro M Ea)
  have Eb:=Ext.new M #[.int .i64 ku,S nu,.int .i64 pu,.slice Au us'.length cu] 51
  have M:=M.alloc (.cells #[.int .i64 ku,S nu,.int .i64 pu,.slice Au us'.length cu] 51)
  have Ea:=Ea.alloc (.cells #[.int .i64 ku,S nu,.int .i64 pu,.slice Au us'.length cu] 51)
  go_simp
  refine hK.out _ _ (SC.out _ (SK.out M.keep)) (fun hHeld=>nrm ?_)
  clear hK K
  obtain ⟨w2,hwA⟩:∃w2,wz.alloc (.cells #[.int .i64 ku,S nu,.int .i64 pu,.slice Au us'.length cu] 51)=w2:=⟨_,rfl⟩
  rw [hwA] at M Ea Eb hHeld ⊢
  clear hwA
  obtain ⟨gb,hg⟩:∃g,wz.heap.size=g:=⟨_,rfl⟩
  rw [hg] at Eb ⊢
  exact LAST13 AL' AR' cL' cR' ga gb w2 (And.intro M (And.intro Ea Eb))
  rintro AL' AR' cL' cR' ga gb wz M
  refine rd2 3 8 (fun K hK=>?_) (fun K hK=>?_)
  ·have Ea:=Ext.new M #[.int .i64 kx,S nx,.int .i64 px,.slice Ax xs.length cx] 51
   have M:=M.alloc (.cells #[.int .i64 kx,S nx,.int .i64 px,.slice Ax xs.length cx] 51)
   go_simp
   refine hK.out _ _ (SC.out _ (SK.out M.keep)) (fun hHeld=>nrm ?_)
   clear hK K
   obtain ⟨w2,hwA⟩:∃w2,wz.alloc (.cells #[.int .i64 kx,S nx,.int .i64 px,.slice Ax xs.length cx] 51)=w2:=⟨_,rfl⟩
   rw [hwA] at M Ea hHeld ⊢
   clear hwA
   obtain ⟨ga,hg⟩:∃g,wz.heap.size=g:=⟨_,rfl⟩
   rw [hg] at Ea ⊢
   exact LAST12 AL' AR' cL' cR' ga gb w2 (And.intro M Ea)
  have Eb:=Ext.new M #[.int .i64 ku,S nu,.int .i64 pu,.slice Au us'.length cu] 51
  have M:=M.alloc (.cells #[.int .i64 ku,S nu,.int .i64 pu,.slice Au us'.length cu] 51)
  go_simp
  refine hK.out _ _ (SC.out _ (SK.out M.keep)) (fun hHeld=>nrm ?_)
  clear hK K
  obtain ⟨w2,hwA⟩:∃w2,wz.alloc (.cells #[.int .i64 ku,S nu,.int .i64 pu,.slice Au us'.length cu] 51)=w2:=⟨_,rfl⟩
  rw [hwA] at M Eb hHeld ⊢
  clear hwA
  obtain ⟨gb,hg⟩:∃g,wz.heap.size=g:=⟨_,rfl⟩
  rw [hg] at Eb ⊢
  exact LAST14 AL' AR' cL' cR' ga gb w2 (And.intro M Eb)
  rintro AL' AR' cL' cR' ga gb wz ⟨M,Eb⟩
  refine rd2 3 6 (fun K hK=>?_) (fun K hK=>?_)
  ·have Ea:=Ext.new M #[.int .i64 kx,S nx,.int .i64 px,.slice Ax xs.length cx] 51
   have M:=M.alloc (.cells #[.int .i64 kx,S nx,.int .i64 px,.slice Ax xs.length cx] 51)
   have Eb:=Eb.alloc (.cells #[.int .i64 kx,S nx,.int .i64 px,.slice Ax xs.length cx] 51)
   go_simp
   refine hK.out _ _ (SC.out _ (SK.out M.keep)) (fun hHeld=>nrm ?_)
   clear hK K
   obtain ⟨w2,hwA⟩:∃w2,wz.alloc (.cells #[.int .i64 kx,S nx,.int .i64 px,.slice Ax xs.length cx] 51)=w2:=⟨_,rfl⟩
   rw [hwA] at M Eb Ea hHeld ⊢
   clear hwA
   obtain ⟨ga,hg⟩:∃g,wz.heap.size=g:=⟨_,rfl⟩
   rw [hg] at Ea ⊢
   exact LAST13 AL' AR' cL' cR' ga gb w2 (And.intro M (And.intro Ea Eb))
  obtain ⟨z8,z9⟩:=QB.out _ (M.keep _ lQ nQ.1 nQ.2)
  go_simp
  refine hK.out _ _ (SC.out _ (SK.out M.keep)) (fun hHeld=>nrm ?_)
  clear hK K
  clear z8 z9
  exact LAST14 AL' AR' cL' cR' ga gb wz (And.intro M Eb)
  rintro AL' AR' cL' cR' ga gb wz ⟨M,Ea⟩
  refine rd2 1 8 (fun K hK=>?_) (fun K hK=>?_)
  ·obtain ⟨z8,z9⟩:=QB.out _ (M.keep _ lQ nQ.1 nQ.2)
   go_simp
   refine hK.out _ _ (SC.out _ (SK.out M.keep)) (fun hHeld=>nrm ?_)
   clear hK K
   clear z8 z9
   exact LAST12 AL' AR' cL' cR' ga gb wz (And.intro M Ea)
  have Eb:=Ext.new M #[.int .i64 ku,S nu,.int .i64 pu,.slice Au us'.length cu] 51
  have M:=M.alloc (.cells #[.int .i64 ku,S nu,.int .i64 pu,.slice Au us'.length cu] 51)
  have Ea:=Ea.alloc (.cells #[.int .i64 ku,S nu,.int .i64 pu,.slice Au us'.length cu] 51)
  go_simp
  refine hK.out _ _ (SC.out _ (SK.out M.keep)) (fun hHeld=>nrm ?_)
  clear hK K
  obtain ⟨w2,hwA⟩:∃w2,wz.alloc (.cells #[.int .i64 ku,S nu,.int .i64 pu,.slice Au us'.length cu] 51)=w2:=⟨_,rfl⟩
  rw [hwA] at M Ea Eb hHeld ⊢
  clear hwA
  obtain ⟨gb,hg⟩:∃g,wz.heap.size=g:=⟨_,rfl⟩
  rw [hg] at Eb ⊢
  exact LAST15 AL' AR' cL' cR' ga gb w2 (And.intro M (And.intro Ea Eb))
  rintro AL' AR' cL' cR' ga gb wz ⟨M,Ea,Eb⟩
  refine rd2 1 6 (fun K hK=>?_) (fun K hK=>?_)
  ·obtain ⟨z8,z9⟩:=QB.out _ (M.keep _ lQ nQ.1 nQ.2)
   go_simp
   refine hK.out _ _ (SC.out _ (SK.out M.keep)) (fun hHeld=>nrm ?_)
   clear hK K
   clear z8 z9
   exact LAST13 AL' AR' cL' cR' ga gb wz (And.intro M (And.intro Ea Eb))
  obtain ⟨z8,z9⟩:=QB.out _ (M.keep _ lQ nQ.1 nQ.2)
  go_simp
  refine hK.out _ _ (SC.out _ (SK.out M.keep)) (fun hHeld=>nrm ?_)
  clear hK K
  clear z8 z9
  exact LAST15 AL' AR' cL' cR' ga gb wz (And.intro M (And.intro Ea Eb))
  rintro AL' AR' cL' cR' ga gb wz ⟨M,Eb⟩
  refine rd2 1 3 (fun K hK=>?_) (fun K hK=>?_)
  ·obtain ⟨z8,z9⟩:=QB.out _ (M.keep _ lQ nQ.1 nQ.2)
   go_simp
   refine hK.out _ _ (SC.out _ (SK.out M.keep)) (fun hHeld=>nrm ?_)
   clear hK K
   clear z8 z9
   exact LAST14 AL' AR' cL' cR' ga gb wz (And.intro M Eb)
  have Ea:=Ext.new M #[.int .i64 kx,S nx,.int .i64 px,.slice Ax xs.length cx] 51
  have M:=M.alloc (.cells #[.int .i64 kx,S nx,.int .i64 px,.slice Ax xs.length cx] 51)
  have Eb:=Eb.alloc (.cells #[.int .i64 kx,S nx,.int .i64 px,.slice Ax xs.length cx] 51)
  go_simp
  refine hK.out _ _ (SC.out _ (SK.out M.keep)) (fun hHeld=>nrm ?_)
  clear hK K
  obtain ⟨w2,hwA⟩:∃w2,wz.alloc (.cells #[.int .i64 kx,S nx,.int .i64 px,.slice Ax xs.length cx] 51)=w2:=⟨_,rfl⟩
  rw [hwA] at M Eb Ea hHeld ⊢
  clear hwA
  obtain ⟨ga,hg⟩:∃g,wz.heap.size=g:=⟨_,rfl⟩
  rw [hg] at Ea ⊢
  exact LAST15 AL' AR' cL' cR' ga gb w2 (And.intro M (And.intro Ea Eb))
  rintro AL' AR' cL' cR' ga gb wz M
  refine rd2 6 8 (fun K hK=>?_) (fun K hK=>?_)
  ·obtain ⟨z8,z9⟩:=QB.out _ (M.keep _ lQ nQ.1 nQ.2)
   go_simp
   refine hK.out _ _ (SC.out _ (SK.out M.keep)) (fun hHeld=>nrm ?_)
   clear hK K
   clear z8 z9
   refine tk 10 ?_
   exact LAST16 AL' AR' cL' cR' ga gb wz M
  have Eb:=Ext.new M #[.int .i64 ku,S nu,.int .i64 pu,.slice Au us'.length cu] 51
  have M:=M.alloc (.cells #[.int .i64 ku,S nu,.int .i64 pu,.slice Au us'.length cu] 51)
  go_simp
  refine hK.out _ _ (SC.out _ (SK.out M.keep)) (fun hHeld=>nrm ?_)
  clear hK K
  obtain ⟨w2,hwA⟩:∃w2,wz.alloc (.cells #[.int .i64 ku,S nu,.int .i64 pu,.slice Au us'.length cu] 51)=w2:=⟨_,rfl⟩
  rw [hwA] at M Eb hHeld ⊢
  clear hwA
  obtain ⟨gb,hg⟩:∃g,wz.heap.size=g:=⟨_,rfl⟩
  rw [hg] at Eb ⊢
  exact LAST17 AL' AR' cL' cR' ga gb w2 (And.intro M Eb)
  rintro AL' AR' cL' cR' ga gb wz ⟨M,Ea⟩
  refine rd2 4 8 (fun K hK=>?_) (fun K hK=>?_)
  ·refine apT [.int .i64 kx,S nx,.int .i64 px,.slice Ax xs.length cx] M.L (fun j u h=>Ea.cells j u h) oneCellT hlm hl56 (Nat.le_trans hsz M.size) ?_
   intro AL' cL' w2 hown hg hloc
   have M:=M.appL hown hg hloc
   refine hK.out _ _ (SC.out _ (SK.out M.keep)) (fun hHeld=>nrm ?_)
   clear hK K
   clear hown hg hloc
   refine tk 10 ?_
   exact LAST16 AL' AR' cL' cR' ga gb w2 M
  have Eb:=Ext.new M #[.int .i64 ku,S nu,.int .i64 pu,.slice Au us'.length cu] 51
  have M:=M.alloc (.cells #[.int .i64 ku,S nu,.int .i64 pu,.slice Au us'.length cu] 51)
  have Ea:=Ea.alloc (.cells #[.int .i64 ku,S nu,.int .i64 pu,.slice Au us'.length cu] 51)
  go_simp
  refine hK.out _ _ (SC.out _ (SK.out M.keep)) (fun hHeld=>nrm ?_)
  clear hK K
  obtain ⟨w2,hwA⟩:∃w2,wz.alloc (.cells #[.int .i64 ku,S nu,.int .i64 pu,.slice Au us'.length cu] 51)=w2:=⟨_,rfl⟩
  rw [hwA] at M Ea Eb hHeld ⊢
  clear hwA
  obtain ⟨gb,hg⟩:∃g,wz.heap.size=g:=⟨_,rfl⟩
  rw [hg] at Eb ⊢
  exact LAST18 AL' AR' cL' cR' ga gb w2 (And.intro M (And.intro Ea Eb))
  rintro AL' AR' cL' cR' ga gb wz ⟨M,Ea,Eb⟩
  refine rd2 4 6 (fun K hK=>?_) (fun K hK=>?_)
  ·refine apT [.int .i64 kx,S nx,.int .i64 px,.slice Ax xs.length cx] M.L (fun j u h=>Ea.cells j u h) oneCellT hlm hl56 (Nat.le_trans hsz M.size) ?_
   intro AL' cL' w2 hown hg hloc
   have M:=M.appL hown hg hloc
   have Eb:=Eb.appL hg hloc
   refine hK.out _ _ (SC.out _ (SK.out M.keep)) (fun hHeld=>nrm ?_)
   clear hK K
   clear hown hg hloc
   exact LAST17 AL' AR' cL' cR' ga gb w2 (And.intro M Eb)
  obtain ⟨z8,z9⟩:=QB.out _ (M.keep _ lQ nQ.1 nQ.2)
  go_simp
  refine hK.out _ _ (SC.out _ (SK.out M.keep)) (fun hHeld=>nrm ?_)
  clear hK K
  clear z8 z9
  exact LAST18 AL' AR' cL' cR' ga gb wz (And.intro M (And.intro Ea Eb))
  rintro AL' AR' cL' cR' ga gb wz ⟨M,Eb⟩
  refine rd1 3 (fun K hK=>?_)
  have Ea:=Ext.new M #[.int .i64 kx,S nx,.int .i64 px,.slice Ax xs.length cx] 51
  have M:=M.alloc (.cells #[.int .i64 kx,S nx,.int .i64 px,.slice Ax xs.length cx] 51)
  have Eb:=Eb.alloc (.cells #[.int .i64 kx,S nx,.int .i64 px,.slice Ax xs.length cx] 51)
  go_simp
  refine hK.out _ _ (SC.out _ (SK.out M.keep)) (fun hHeld=>nrm ?_)
  clear hK K
  obtain ⟨w2,hwA⟩:∃w2,wz.alloc (.cells #[.int .i64 kx,S nx,.int .i64 px,.slice Ax xs.length cx] 51)=w2:=⟨_,rfl⟩
  rw [hwA] at M Eb Ea hHeld ⊢
  clear hwA
  obtain ⟨ga,hg⟩:∃g,wz.heap.size=g:=⟨_,rfl⟩
  rw [hg] at Ea ⊢
  exact LAST18 AL' AR' cL' cR' ga gb w2 (And.intro M (And.intro Ea Eb))
  rintro AL' AR' cL' cR' ga gb wz ⟨M,Ea,Eb⟩
  refine rd1 1 (fun K hK=>?_)
  obtain ⟨z8,z9⟩:=QB.out _ (M.keep _ lQ nQ.1 nQ.2)
  go_simp
  refine hK.out _ _ (SC.out _ (SK.out M.keep)) (fun hHeld=>nrm ?_)
  clear hK K
  clear z8 z9
  exact LAST18 AL' AR' cL' cR' ga gb wz (And.intro M (And.intro Ea Eb))
  rintro AL' AR' cL' cR' ga gb wz M
  refine rd1 8 (fun K hK=>?_)
  have Eb:=Ext.new M #[.int .i64 ku,S nu,.int .i64 pu,.slice Au us'.length cu] 51
  have M:=M.alloc (.cells #[.int .i64 ku,S nu,.int .i64 pu,.slice Au us'.length cu] 51)
  go_simp
  refine hK.out _ _ (SC.out _ (SK.out M.keep)) (fun hHeld=>nrm ?_)
  clear hK K
  obtain ⟨w2,hwA⟩:∃w2,wz.alloc (.cells #[.int .i64 ku,S nu,.int .i64 pu,.slice Au us'.length cu] 51)=w2:=⟨_,rfl⟩
  rw [hwA] at M Eb hHeld ⊢
  clear hwA
  obtain ⟨gb,hg⟩:∃g,wz.heap.size=g:=⟨_,rfl⟩
  rw [hg] at Eb ⊢
  exact LAST19 AL' AR' cL' cR' ga gb w2 (And.intro M Eb)
  rintro AL' AR' cL' cR' ga gb wz ⟨M,Eb⟩
  refine rd1 6 (fun K hK=>?_)
  obtain ⟨z8,z9⟩:=QB.out _ (M.keep _ lQ nQ.1 nQ.2)
  go_simp
  refine hK.out _ _ (SC.out _ (SK.out M.keep)) (fun hHeld=>nrm ?_)
  clear hK K
  clear z8 z9
  refine tk 10 ?_
  exact LAST19 AL' AR' cL' cR' ga gb wz (And.intro M Eb)
  rintro AL' AR' cL' cR' ga gb wz ⟨M,Ea,Eb⟩
  refine rd1 4 (fun K hK=>?_)
  refine apT [.int .i64 kx,S nx,.int .i64 px,.slice Ax xs.length cx] M.L (fun j u h=>Ea.cells j u h) oneCellT hlm hl56 (Nat.le_trans hsz M.size) ?_
  intro AL' cL' w2 hown hg hloc
  have M:=M.appL hown hg hloc
  have Eb:=Eb.appL hg hloc
  refine hK.out _ _ (SC.out _ (SK.out M.keep)) (fun hHeld=>nrm ?_)
  clear hK K
  clear hown hg hloc
  refine tk 10 ?_
  exact LAST19 AL' AR' cL' cR' ga gb w2 (And.intro M Eb)
  rintro AL' AR' cL' cR' ga gb wz ⟨M,Eb⟩
  refine rd1 9 (fun K hK=>?_)
  refine apT [.int .i64 ku,S nu,.int .i64 pu,.slice Au us'.length cu] M.R (fun j u h=>Eb.cells j u h) oneCellT hlm hl56 (Nat.le_trans hsz M.size) ?_
  intro AR' cR' w2 hown hg hloc
  have M:=M.appR hown hg hloc
  refine hK.out _ _ (SC.out _ (SK.out M.keep)) (fun hHeld=>nrm ?_)
  clear hK K
  clear hown hg hloc
  exact LAST20 AL' AR' cL' cR' ga gb w2 M
  rintro AL' AR' cL' cR' ga gb wz M
  refine rd1 11 (fun K hK=>?_)
  have hqb:=(M.keep _ lQ nQ.1 nQ.2).trans HQB.out
  obtain ⟨wS1,hS1⟩:∃wS1,wz.setCell ⟨w5.heap.size,8,none⟩ (.slice AL' (k+1) cL')=wS1:=⟨_,rfl⟩
  obtain ⟨wS2,hS2⟩:∃wS2,wS1.setCell ⟨w5.heap.size,9,none⟩ (.slice AR' (k+1) cR')=wS2:=⟨_,rfl⟩
  have hqb1:wS1.heap[w5.heap.size]?=some (.cells #[.slice none 0 0,.int .i64 rel,.int .i64 0,.int .i64 0,.slice none 0 0,.int .i64 0,.int .i64 0,.slice none 0 0,.slice AL' (k+1) cL',.slice AR k cr,.slice A0 nk c0] 29 (0,0)):=by rw [←hS1];simp [World.setCell,Array.getElem?_modify,hqb]
  have hqb2:wS2.heap[w5.heap.size]?=some (.cells #[.slice none 0 0,.int .i64 rel,.int .i64 0,.int .i64 0,.slice none 0 0,.int .i64 0,.int .i64 0,.slice none 0 0,.slice AL' (k+1) cL',.slice AR' (k+1) cR',.slice A0 nk c0] 29 (0,0)):=by rw [←hS2];simp [World.setCell,Array.getElem?_modify,hqb1]
  have hoS1:Oth w5.heap.size wz wS1:=by rw [←hS1];exact Oth.set _ _
  have hoS2:Oth w5.heap.size wS1 wS2:=by rw [←hS2];exact Oth.set _ _
  have c8:=(zC hqb 8:wz.cell? ⟨w5.heap.size,8,none⟩=some (.slice AL k cl))
  have f8:=zF hqb 8
  have c9:=(zC hqb1 9:wS1.cell? ⟨w5.heap.size,9,none⟩=some (.slice AR k cr))
  have f9:=zF hqb1 9
  have k7:=(hoS1.block _ (Nat.lt_of_lt_of_le l7 M.size) (fun e=>n7Q (zO e))).trans (M.keep _ l7 n7.1 n7.2)
  have k8:=(hoS1.block _ (Nat.lt_of_lt_of_le l8 M.size) (fun e=>n8Q (zO e))).trans (M.keep _ l8 n8.1 n8.2)
  have HN:Hid (As1 w w6 T w5.heap.size rel A0 nk c0 ks (k+1) (ts++[.node kx nx px xs]) (us++[.node ku nu pu us']) AL' cL' AR' cR' wS2):=zH (As1.push HS.out hTw hQ0 hQ3 HRL.out HRR.out HTX.out HTU.out HZX.out HZU.out M (hoS1.trans hoS2) hqb2)
  go_simp
  refine hK.out _ _ (SC.out _ ⟨k7,k8⟩) (fun hHeld=>nrm ?_)
  clear hK K
  refine tk 12 ?_
  refine rd1 13 (fun K hK=>?_)
  have k7':=(hoS2.block _ (Nat.lt_of_lt_of_le (Nat.lt_of_lt_of_le l7 M.size) hoS1.size) (fun e=>n7Q (zO e))).trans k7
  have k8':=(hoS2.block _ (Nat.lt_of_lt_of_le (Nat.lt_of_lt_of_le l8 M.size) hoS1.size) (fun e=>n8Q (zO e))).trans k8
  go_simp
  refine hK.out _ _ (SC.out _ ⟨k7',k8'⟩) (fun hHeld=>nrm ?_)
  clear hK K
  clear hqb hqb1 hqb2 hoS1 hoS2 c8 f8 c9 f9 k7 k8 k7' k8' hS1 hS2
  refine wpAnyH_done (by kernel_rfl) ?_ _
  go_wp2_with fail
  go_roundw
  case rel=>exact ⟨k+1,_,_,_,_,_,_,by omega,by go_num,HN⟩
  case measure=>simp [intOf];omega
 obtain rfl:k=n:=by omega
 have hd1:decide ((k:Int)<(k:Int))=false:=by simp
 obtain ⟨h2,hLn,hRn⟩:=HI.out.two hQ0 hQ3
 have LN:=zH (And.intro hLn hRn)
 have HGT:Hid (∀t,t∈ts→t.size≤40):=zH HI.out.zt
 have HGU:Hid (∀t,t∈us→Lfc.good t):=zH HI.out.zu
 have HLEN:=zH (And.intro HI.out.lt HI.out.lu)
 have hBw:w.heap.size≤wr.heap.size:=HI.out.oth.size
 have hQB:=zL HI.out.blk
 obtain ⟨wB,hwB⟩:∃wB,wB=wr:=⟨_,rfl⟩
 subst hwB
 have I2:=zH h2
 clear HI h2 hLn hRn
 go_wp2_with fail
 refine (tapeI_next T 4 wB (by omega) (by omega) I2.out.tape).mono ?_
 rintro e w11 ⟨⟨m0,hm0,rfl⟩,T11,o11⟩
 have I0:=zH (I2.out.othT hTw hQ0 hBw o11 T11)
 clear I2 T11 o11
 go_wp2_with fail
 go_loopw [9] (fun i wr=>∃ (j:Nat) (fs:List Lfc.Fact) (nf:Nat) (F:Option Addr) (f0:Nat),j+nf≤3∧i=.int .i64 (j:Int)∧Hid (As2 w wB T w5.heap.size rel A0 nk c0 ks k ts us AL cl AR cr fs nf F f0 wr)) (fun i _=>(intOf i).toNat)
 case atStart=>exact ⟨m0,[],0,none,0,by omega,rfl,I0⟩
 clear I0
 obtain ⟨j,fs,nf,F,f0,hjn,rfl,HI⟩:=hrel
 by_cases hj:0<j
 ·have hj1:decide ((j:Int)>0)=true:=by rw [decide_eq_true_eq];omega
  have hj2:decide (0<(j:Int))=true:=by rw [decide_eq_true_eq];omega
  have hjw:IntKind.i64.wrap ((j:Int)-1)=((j-1:Nat):Int):=by rw [IntWalk.i64_in _ (by omega)];omega
  have hQw:=zL HI.out.blk
  have hsw:=HI.out.size
  have hwo:=HI.out.oth.size
  have QC:Hid (∀W:World,Oth T wr W→W.cell? ⟨w5.heap.size,8,none⟩=some (.slice AL k cl)∧W.cell? ⟨w5.heap.size,9,none⟩=some (.slice AR k cr)):=zH (fun W hW=>by
   have e:=hW.heap HI.out.blk (by omega)
   exact ⟨zC e 8,zC e 9⟩)
  have LAT:Hid (∀i,i<k→∃b o kk nn pp ls B c,AL=some ⟨b,o,none⟩∧(∀W:World,Oth T wr W→W.cell? ⟨b,o+i*4,none⟩=some (.int .i64 kk)∧W.cell? ⟨b,o+i*4+1,none⟩=some (S nn)∧W.cell? ⟨b,o+i*4+2,none⟩=some (.int .i64 pp)∧W.cell? ⟨b,o+i*4+3,none⟩=some (.slice B (List.length ls) c))∧Lfc.Raw.node kk nn pp ls∈ts∧TreeVP (fun b=>w.heap.size<b∧b≠w5.heap.size∧(Value.slice F nf f0).ownBlock≠some b) wr (.node kk nn pp ls) (.agg #[.int .i64 kk,S nn,.int .i64 pp,.slice B (List.length ls) c])):=zH (fun i hi=>tree_elem hTw (by rw [HLEN.out.1];exact hi) HI.out.L (fun b hb=>by have:=hb.1;omega))
  have RAT:Hid (∀i,i<k→∃b o kk nn pp ls B c,AR=some ⟨b,o,none⟩∧(∀W:World,Oth T wr W→W.cell? ⟨b,o+i*4,none⟩=some (.int .i64 kk)∧W.cell? ⟨b,o+i*4+1,none⟩=some (S nn)∧W.cell? ⟨b,o+i*4+2,none⟩=some (.int .i64 pp)∧W.cell? ⟨b,o+i*4+3,none⟩=some (.slice B (List.length ls) c))∧Lfc.Raw.node kk nn pp ls∈us∧TreeVP (fun b=>w.heap.size<b∧b≠w5.heap.size∧(Value.slice F nf f0).ownBlock≠some b) wr (.node kk nn pp ls) (.agg #[.int .i64 kk,S nn,.int .i64 pp,.slice B (List.length ls) c])):=zH (fun i hi=>tree_elem hTw (by rw [HLEN.out.2];exact hi) HI.out.R (fun b hb=>by have:=hb.1;omega))
  obtain ⟨bL,oL,fk,fn,fp,fl,fB,fc,rfl,hLA⟩:=pickL (Nat.lt_of_lt_of_le Nat.zero_lt_one hn1.1) LAT.out
  obtain ⟨bR,oR,gk,gn,gp,gl,gB,gc,rfl,hRA⟩:=pickL (Nat.lt_of_lt_of_le Nat.zero_lt_one hn1.1) RAT.out
  have LAF:=zH hLA
  have RAF:=zH hRA
  clear LAT RAT hLA hRA
  have hqn2:∀b,wr.heap.size≤b→(w.heap.size<b∧b≠w5.heap.size∧(Value.slice F nf f0).ownBlock≠some b):=fun b hb=>by
   obtain ⟨xF,h1,_⟩:=HI.out.row
   exact ⟨by omega,by omega,fun e=>by have:=(h1.lt b e).2;omega⟩
  have hnk0:IntKind.i64.wrap (nk:Int)=(nk:Int):=IntWalk.i64_in _ (by omega)
  have PT0:Hid (∀ (W:World) (j:Nat),j<k→Oth T wr W→TapeI T W→Calls Tryz.prog 29 #[.pointer (some ⟨T,0,none⟩),.agg #[.int .i64 (gk j),S (gn j),.int .i64 (gp j),.slice (gB j) (gl j).length (gc j)],.int .i64 (nk:Int)] W (PartAns W T 40 (fun b=>w.heap.size<b∧b≠w5.heap.size∧(Value.slice F nf f0).ownBlock≠some b))):=zH (fun W j hj O TP =>
   mPart_any (fun b=>w.heap.size<b∧b≠w5.heap.size∧(Value.slice F nf f0).ownBlock≠some b) T nk 40 _ _ W (by omega) (by omega) (HGU.out _ (RAF.out j hj).2.1).1 (HGU.out _ (RAF.out j hj).2.1).2 TP (fun b hb=>by have:=hb.1;omega) (fun b hb=>hqn2 b (Nat.le_trans O.size hb)) ((RAF.out j hj).2.2.keep (fun b hb hlt=>O.block b hlt (fun e=>by have:=zO e;have:=hb.1;omega)) O.size (fun b hlt hb=>hb)))
  have PT1:Hid (∀ (W:World) (j g:Nat),j<k→Oth T wr W→TapeI T W→wr.heap.size≤g→g<W.heap.size→Calls Tryz.prog 29 #[.pointer (some ⟨T,0,none⟩),.agg #[.int .i64 (gk j),S (gn j),.int .i64 (gp j),.slice (gB j) (gl j).length (gc j)],.int .i64 (nk:Int)] W (PartAns W T 40 (fun b=>(w.heap.size<b∧b≠w5.heap.size∧(Value.slice F nf f0).ownBlock≠some b)∧b≠g))):=zH (fun W j g hj O TP hg1 hg2 =>
   mPart_any (fun b=>(w.heap.size<b∧b≠w5.heap.size∧(Value.slice F nf f0).ownBlock≠some b)∧b≠g) T nk 40 _ _ W (by omega) (by omega) (HGU.out _ (RAF.out j hj).2.1).1 (HGU.out _ (RAF.out j hj).2.1).2 TP (fun b hb=>by have:=hb.1.1;omega) (fun b hb=>⟨hqn2 b (Nat.le_trans O.size hb),by omega⟩) ((RAF.out j hj).2.2.keep (fun b hb hlt=>O.block b hlt (fun e=>by have:=zO e;have:=hb.1;omega)) O.size (fun b hlt hb=>⟨hb,by omega⟩)))
  go_upto_region 14 with fail
  go_cut [10] (fun s wx=>Hid (∃g,s=.pointer (some ⟨g,0,none⟩)∧FVar w wr T w5.heap.size (.slice F nf f0) ts g wx))
  case first =>
   refine wp_region_held_drew (S:=fun W=>Oth T wr W) (by kernel_rfl) ?_ (fun hHeld=>?_)
   ·exact (Oth.refl T wr).drew
   have O:Oth T wr wr.drew:=(Oth.refl T wr).drew
   have TP:=HI.out.tape.below (zB wr.heap.size wr).drew
   apply shareB
   intro LAST19
   apply shareB
   intro LAST18
   apply shareB
   intro LAST17
   apply shareB
   intro LAST16
   apply shareB
   intro LAST15
   apply shareB
   intro LAST14
   apply shareB
   intro LAST13
   apply shareB
   intro LAST12
   apply shareB
   intro LAST11
   apply shareB
   intro LAST10
   apply shareB
   intro LAST9
   apply shareB
   intro LAST8
   apply shareB
   intro LAST7
   apply shareB
   intro LAST6
   apply shareB
   intro LAST5
   apply shareB
   intro LAST4
   apply shareB
   intro LAST3
   apply shareB
   intro LAST2
   apply shareB
   intro LAST1
   obtain ⟨iA,rB,jC,k9,p9,n9,ts9,A9,c9,gE,gF,-⟩:∃ (_ _ _:Nat) (_ _:Int) (_:List UInt8) (_:List Lfc.Raw) (_:Option Addr) (_ _ _:Nat),True:=⟨0,0,0,0,0,[],[],none,0,0,0,trivial⟩
   obtain ⟨wz,hwz⟩:∃wz,wr.drew=wz:=⟨_,rfl⟩
   rw [hwz] at O TP hHeld ⊢
   clear hwz
   refine tk 0 ?_
   refine tk 1 (hy:=Or.inl ⟨by rfl,by intro w hSw;obtain ⟨q8,q9⟩:=QC.out w hSw;go_simp;try with_reducible rfl⟩) ?_
   refine tk 2 ?_
   refine tk 3 ?_
   refine tk 8 ?_
   refine tk 12 ?_
   refine tk 13 ?_
   refine tk 14 (hy:=Or.inl ⟨by rfl,by intro w hSw;obtain ⟨q8,q9⟩:=QC.out w hSw;go_simp;try with_reducible rfl⟩) ?_
   refine tk 15 ?_
   refine tk 16 ?_
   refine tk 20 ?_
   refine rd3 4 7 23 (fun K hK=>?_) (fun K hK=>?_) (fun K hK=>?_)
   ·go_simp
    go_at_call 12
    refine (tapeI_next T k _ (by omega) (by omega) TP).mono ?_
    rintro e w2 ⟨⟨iA,hiA,rfl⟩,TP,o2⟩
    have O:=O.trans o2
    have hiA0:(0:Int)≤(iA:Int):=Int.natCast_nonneg _
    have hiA1:(iA:Int)<(k:Int):=by omega
    refine hK.out _ _ (O) (fun hHeld=>nrm ?_)
    clear hK K
    refine tk 5 ?_
    refine tk 6 (hy:=Or.inl ⟨by rfl,by intro w hSw;obtain ⟨e0,e1,e2,e3⟩:=(LAF.out iA hiA).1 w hSw;go_simp;try with_reducible rfl⟩) ?_
    exact LAST1 iA rB jC k9 p9 n9 ts9 A9 c9 gE gF w2 (And.intro hiA (And.intro O TP))
   ·have hgE:wr.heap.size≤wz.heap.size:=O.size
    have O:=O.al oI3
    have TP:=TP.al oI3
    have QE:=zW wz oI3
    go_simp
    refine hK.out _ _ (O) (fun hHeld=>nrm ?_)
    clear hK K
    obtain ⟨w2,hwA⟩:∃w2,wz.alloc oI3=w2:=⟨_,rfl⟩
    rw [hwA] at O TP QE hHeld ⊢
    clear hwA
    obtain ⟨gE,hg⟩:∃g,wz.heap.size=g:=⟨_,rfl⟩
    rw [hg] at QE hgE ⊢
    exact LAST2 iA rB jC k9 p9 n9 ts9 A9 c9 gE gF w2 (And.intro O (And.intro TP (And.intro QE hgE)))
   have hgF:wr.heap.size≤wz.heap.size:=O.size
   have O:=O.al oZF
   have TP:=TP.al oZF
   have QF:=zW wz oZF
   go_simp
   refine hK.out _ _ (O) (fun hHeld=>nrm ?_)
   clear hK K
   obtain ⟨w2,hwA⟩:∃w2,wz.alloc oZF=w2:=⟨_,rfl⟩
   rw [hwA] at O TP QF hHeld ⊢
   clear hwA
   obtain ⟨gF,hg⟩:∃g,wz.heap.size=g:=⟨_,rfl⟩
   rw [hg] at QF hgF ⊢
   exact LAST3 iA rB jC k9 p9 n9 ts9 A9 c9 gE gF w2 (And.intro O (And.intro TP (And.intro QF hgF)))
   rintro iA rB jC k9 p9 n9 ts9 A9 c9 gE gF wz ⟨hiA,O,TP⟩
   refine rd3 7 9 23 (fun K hK=>?_) (fun K hK=>?_) (fun K hK=>?_)
   ·have hgE:wr.heap.size≤wz.heap.size:=O.size
    have O:=O.al oI3
    have TP:=TP.al oI3
    have QE:=zW wz oI3
    go_simp
    refine hK.out _ _ (O) (fun hHeld=>nrm ?_)
    clear hK K
    obtain ⟨w2,hwA⟩:∃w2,wz.alloc oI3=w2:=⟨_,rfl⟩
    rw [hwA] at O TP QE hHeld ⊢
    clear hwA
    obtain ⟨gE,hg⟩:∃g,wz.heap.size=g:=⟨_,rfl⟩
    rw [hg] at QE hgE ⊢
    exact LAST4 iA rB jC k9 p9 n9 ts9 A9 c9 gE gF w2 (And.intro hiA (And.intro O (And.intro TP (And.intro QE hgE))))
   ·go_simp
    go_at_call 12
    refine (tapeI_next T 3 _ (by omega) (by omega) TP).mono ?_
    rintro e w2 ⟨⟨rB,hrB,rfl⟩,TP,o2⟩
    have O:=O.trans o2
    refine hK.out _ _ (O) (fun hHeld=>nrm ?_)
    clear hK K
    exact LAST5 iA rB jC k9 p9 n9 ts9 A9 c9 gE gF w2 (And.intro hiA (And.intro hrB (And.intro O TP)))
   have hgF:wr.heap.size≤wz.heap.size:=O.size
   have O:=O.al oZF
   have TP:=TP.al oZF
   have QF:=zW wz oZF
   go_simp
   refine hK.out _ _ (O) (fun hHeld=>nrm ?_)
   clear hK K
   obtain ⟨w2,hwA⟩:∃w2,wz.alloc oZF=w2:=⟨_,rfl⟩
   rw [hwA] at O TP QF hHeld ⊢
   clear hwA
   obtain ⟨gF,hg⟩:∃g,wz.heap.size=g:=⟨_,rfl⟩
   rw [hg] at QF hgF ⊢
   exact LAST6 iA rB jC k9 p9 n9 ts9 A9 c9 gE gF w2 (And.intro hiA (And.intro O (And.intro TP (And.intro QF hgF))))
   rintro iA rB jC k9 p9 n9 ts9 A9 c9 gE gF wz ⟨O,TP,QE,hgE⟩
   refine rd2 4 23 (fun K hK=>?_) (fun K hK=>?_)
   ·go_simp
    go_at_call 12
    refine (tapeI_next T k _ (by omega) (by omega) TP).mono ?_
    rintro e w2 ⟨⟨iA,hiA,rfl⟩,TP,o2⟩
    have O:=O.trans o2
    have QE:=o2.heap QE (by omega)
    have hiA0:(0:Int)≤(iA:Int):=Int.natCast_nonneg _
    have hiA1:(iA:Int)<(k:Int):=by omega
    refine hK.out _ _ (O) (fun hHeld=>nrm ?_)
    clear hK K
    refine tk 5 ?_
    refine tk 6 (hy:=Or.inl ⟨by rfl,by intro w hSw;obtain ⟨e0,e1,e2,e3⟩:=(LAF.out iA hiA).1 w hSw;go_simp;try with_reducible rfl⟩) ?_
    exact LAST4 iA rB jC k9 p9 n9 ts9 A9 c9 gE gF w2 (And.intro hiA (And.intro O (And.intro TP (And.intro QE hgE))))
   have hgF:wr.heap.size≤wz.heap.size:=O.size
   have O:=O.al oZF
   have TP:=TP.al oZF
   have hEF:gE≠wz.heap.size:=Nat.ne_of_lt (zL QE)
   have QE:=al_heap QE oZF
   have QF:=zW wz oZF
   go_simp
   refine hK.out _ _ (O) (fun hHeld=>nrm ?_)
   clear hK K
   obtain ⟨w2,hwA⟩:∃w2,wz.alloc oZF=w2:=⟨_,rfl⟩
   rw [hwA] at O TP QF QE hHeld ⊢
   clear hwA
   obtain ⟨gF,hg⟩:∃g,wz.heap.size=g:=⟨_,rfl⟩
   rw [hg] at QF hgF hEF ⊢
   exact LAST7 iA rB jC k9 p9 n9 ts9 A9 c9 gE gF w2 (And.intro O (And.intro TP (And.intro QE (And.intro hgE (And.intro QF (And.intro hgF hEF))))))
   rintro iA rB jC k9 p9 n9 ts9 A9 c9 gE gF wz ⟨O,TP,QF,hgF⟩
   refine rd2 4 7 (fun K hK=>?_) (fun K hK=>?_)
   ·go_simp
    go_at_call 12
    refine (tapeI_next T k _ (by omega) (by omega) TP).mono ?_
    rintro e w2 ⟨⟨iA,hiA,rfl⟩,TP,o2⟩
    have O:=O.trans o2
    have QF:=o2.heap QF (by omega)
    have hiA0:(0:Int)≤(iA:Int):=Int.natCast_nonneg _
    have hiA1:(iA:Int)<(k:Int):=by omega
    refine hK.out _ _ (O) (fun hHeld=>nrm ?_)
    clear hK K
    refine tk 5 ?_
    refine tk 6 (hy:=Or.inl ⟨by rfl,by intro w hSw;obtain ⟨e0,e1,e2,e3⟩:=(LAF.out iA hiA).1 w hSw;go_simp;try with_reducible rfl⟩) ?_
    exact LAST6 iA rB jC k9 p9 n9 ts9 A9 c9 gE gF w2 (And.intro hiA (And.intro O (And.intro TP (And.intro QF hgF))))
   have hgE:wr.heap.size≤wz.heap.size:=O.size
   have O:=O.al oI3
   have TP:=TP.al oI3
   have hEF:wz.heap.size≠gF:=Nat.ne_of_gt (zL QF)
   have QF:=al_heap QF oI3
   have QE:=zW wz oI3
   go_simp
   refine hK.out _ _ (O) (fun hHeld=>nrm ?_)
   clear hK K
   obtain ⟨w2,hwA⟩:∃w2,wz.alloc oI3=w2:=⟨_,rfl⟩
   rw [hwA] at O TP QE QF hHeld ⊢
   clear hwA
   obtain ⟨gE,hg⟩:∃g,wz.heap.size=g:=⟨_,rfl⟩
   rw [hg] at QE hgE hEF ⊢
   exact LAST7 iA rB jC k9 p9 n9 ts9 A9 c9 gE gF w2 (And.intro O (And.intro TP (And.intro QE (And.intro hgE (And.intro QF (And.intro hgF hEF))))))
   rintro iA rB jC k9 p9 n9 ts9 A9 c9 gE gF wz ⟨hiA,O,TP,QE,hgE⟩
   refine rd2 9 23 (fun K hK=>?_) (fun K hK=>?_)
   ·go_simp
    go_at_call 12
    refine (tapeI_next T 3 _ (by omega) (by omega) TP).mono ?_
    rintro e w2 ⟨⟨rB,hrB,rfl⟩,TP,o2⟩
    have O:=O.trans o2
    have QE:=o2.heap QE (by omega)
    refine hK.out _ _ (O) (fun hHeld=>nrm ?_)
    clear hK K
    have hrB0:(0:Int)≤(rB:Int):=Int.natCast_nonneg _
    have hrB1:(rB:Int)<3:=by omega
    refine tk 10 ?_
    refine wpAnyH_mono (S':=fun W=>Oth T wr W∧W.heap[gE]?=some (.cells #[.int .i64 1,.int .i64 2,.int .i64 3] 3 (0,0))) (fun _ h=>h.1) _ _ _ _ ?_
    have hM:=And.intro O QE
    refine tk 11 (hy:=Or.inl ⟨by rfl,by intro w hSw;obtain ⟨_,hSe⟩:=hSw;have yr:=rel_cell hSe hrB;go_simp;try with_reducible rfl⟩) ?_
    exact LAST8 iA rB jC k9 p9 n9 ts9 A9 c9 gE gF w2 (And.intro hiA (And.intro hrB (And.intro O (And.intro TP (And.intro QE hgE)))))
   have hgF:wr.heap.size≤wz.heap.size:=O.size
   have O:=O.al oZF
   have TP:=TP.al oZF
   have hEF:gE≠wz.heap.size:=Nat.ne_of_lt (zL QE)
   have QE:=al_heap QE oZF
   have QF:=zW wz oZF
   go_simp
   refine hK.out _ _ (O) (fun hHeld=>nrm ?_)
   clear hK K
   obtain ⟨w2,hwA⟩:∃w2,wz.alloc oZF=w2:=⟨_,rfl⟩
   rw [hwA] at O TP QF QE hHeld ⊢
   clear hwA
   obtain ⟨gF,hg⟩:∃g,wz.heap.size=g:=⟨_,rfl⟩
   rw [hg] at QF hgF hEF ⊢
   exact LAST9 iA rB jC k9 p9 n9 ts9 A9 c9 gE gF w2 (And.intro hiA (And.intro O (And.intro TP (And.intro QE (And.intro hgE (And.intro QF (And.intro hgF hEF)))))))
   rintro iA rB jC k9 p9 n9 ts9 A9 c9 gE gF wz ⟨hiA,hrB,O,TP⟩
   refine rd3 7 17 23 (fun K hK=>?_) (fun K hK=>?_) (fun K hK=>?_)
   ·have hgE:wr.heap.size≤wz.heap.size:=O.size
    have O:=O.al oI3
    have TP:=TP.al oI3
    have QE:=zW wz oI3
    go_simp
    refine hK.out _ _ (O) (fun hHeld=>nrm ?_)
    clear hK K
    obtain ⟨w2,hwA⟩:∃w2,wz.alloc oI3=w2:=⟨_,rfl⟩
    rw [hwA] at O TP QE hHeld ⊢
    clear hwA
    obtain ⟨gE,hg⟩:∃g,wz.heap.size=g:=⟨_,rfl⟩
    rw [hg] at QE hgE ⊢
    have hrB0:(0:Int)≤(rB:Int):=Int.natCast_nonneg _
    have hrB1:(rB:Int)<3:=by omega
    refine tk 10 ?_
    refine wpAnyH_mono (S':=fun W=>Oth T wr W∧W.heap[gE]?=some (.cells #[.int .i64 1,.int .i64 2,.int .i64 3] 3 (0,0))) (fun _ h=>h.1) _ _ _ _ ?_
    have hM:=And.intro O QE
    refine tk 11 (hy:=Or.inl ⟨by rfl,by intro w hSw;obtain ⟨_,hSe⟩:=hSw;have yr:=rel_cell hSe hrB;go_simp;try with_reducible rfl⟩) ?_
    exact LAST8 iA rB jC k9 p9 n9 ts9 A9 c9 gE gF w2 (And.intro hiA (And.intro hrB (And.intro O (And.intro TP (And.intro QE hgE)))))
   ·go_simp
    go_at_call 12
    refine (tapeI_next T k _ (by omega) (by omega) TP).mono ?_
    rintro e w2 ⟨⟨jC,hjC,rfl⟩,TP,o2⟩
    have O:=O.trans o2
    have hjC0:(0:Int)≤(jC:Int):=Int.natCast_nonneg _
    have hjC1:(jC:Int)<(k:Int):=by omega
    refine hK.out _ _ (O) (fun hHeld=>nrm ?_)
    clear hK K
    refine tk 18 ?_
    refine tk 19 (hy:=Or.inl ⟨by rfl,by intro w hSw;obtain ⟨e0,e1,e2,e3⟩:=(RAF.out jC hjC).1 w hSw;go_simp;try with_reducible rfl⟩) ?_
    exact LAST10 iA rB jC k9 p9 n9 ts9 A9 c9 gE gF w2 (And.intro hiA (And.intro hrB (And.intro hjC (And.intro O TP))))
   have hgF:wr.heap.size≤wz.heap.size:=O.size
   have O:=O.al oZF
   have TP:=TP.al oZF
   have QF:=zW wz oZF
   go_simp
   refine hK.out _ _ (O) (fun hHeld=>nrm ?_)
   clear hK K
   obtain ⟨w2,hwA⟩:∃w2,wz.alloc oZF=w2:=⟨_,rfl⟩
   rw [hwA] at O TP QF hHeld ⊢
   clear hwA
   obtain ⟨gF,hg⟩:∃g,wz.heap.size=g:=⟨_,rfl⟩
   rw [hg] at QF hgF ⊢
   exact LAST11 iA rB jC k9 p9 n9 ts9 A9 c9 gE gF w2 (And.intro hiA (And.intro hrB (And.intro O (And.intro TP (And.intro QF hgF)))))
   rintro iA rB jC k9 p9 n9 ts9 A9 c9 gE gF wz ⟨hiA,O,TP,QF,hgF⟩
   refine rd2 7 9 (fun K hK=>?_) (fun K hK=>?_)
   ·have hgE:wr.heap.size≤wz.heap.size:=O.size
    have O:=O.al oI3
    have TP:=TP.al oI3
    have hEF:wz.heap.size≠gF:=Nat.ne_of_gt (zL QF)
    have QF:=al_heap QF oI3
    have QE:=zW wz oI3
    go_simp
    refine hK.out _ _ (O) (fun hHeld=>nrm ?_)
    clear hK K
    obtain ⟨w2,hwA⟩:∃w2,wz.alloc oI3=w2:=⟨_,rfl⟩
    rw [hwA] at O TP QE QF hHeld ⊢
    clear hwA
    obtain ⟨gE,hg⟩:∃g,wz.heap.size=g:=⟨_,rfl⟩
    rw [hg] at QE hgE hEF ⊢
    exact LAST9 iA rB jC k9 p9 n9 ts9 A9 c9 gE gF w2 (And.intro hiA (And.intro O (And.intro TP (And.intro QE (And.intro hgE (And.intro QF (And.intro hgF hEF)))))))
   go_simp
   go_at_call 12
   refine (tapeI_next T 3 _ (by omega) (by omega) TP).mono ?_
   rintro e w2 ⟨⟨rB,hrB,rfl⟩,TP,o2⟩
   have O:=O.trans o2
   have QF:=o2.heap QF (by omega)
   refine hK.out _ _ (O) (fun hHeld=>nrm ?_)
   clear hK K
   exact LAST11 iA rB jC k9 p9 n9 ts9 A9 c9 gE gF w2 (And.intro hiA (And.intro hrB (And.intro O (And.intro TP (And.intro QF hgF)))))
   rintro iA rB jC k9 p9 n9 ts9 A9 c9 gE gF wz ⟨O,TP,QE,hgE,QF,hgF,hEF⟩
   refine rd1 4 (fun K hK=>?_)
   go_simp
   go_at_call 12
   refine (tapeI_next T k _ (by omega) (by omega) TP).mono ?_
   rintro e w2 ⟨⟨iA,hiA,rfl⟩,TP,o2⟩
   have O:=O.trans o2
   have QE:=o2.heap QE (by omega)
   have QF:=o2.heap QF (by omega)
   have hiA0:(0:Int)≤(iA:Int):=Int.natCast_nonneg _
   have hiA1:(iA:Int)<(k:Int):=by omega
   refine hK.out _ _ (O) (fun hHeld=>nrm ?_)
   clear hK K
   refine tk 5 ?_
   refine tk 6 (hy:=Or.inl ⟨by rfl,by intro w hSw;obtain ⟨e0,e1,e2,e3⟩:=(LAF.out iA hiA).1 w hSw;go_simp;try with_reducible rfl⟩) ?_
   exact LAST9 iA rB jC k9 p9 n9 ts9 A9 c9 gE gF w2 (And.intro hiA (And.intro O (And.intro TP (And.intro QE (And.intro hgE (And.intro QF (And.intro hgF hEF)))))))
   rintro iA rB jC k9 p9 n9 ts9 A9 c9 gE gF wz ⟨hiA,hrB,O,TP,QE,hgE⟩
   refine rd2 17 23 (fun K hK=>?_) (fun K hK=>?_)
   ·go_simp
    go_at_call 12
    refine (tapeI_next T k _ (by omega) (by omega) TP).mono ?_
    rintro e w2 ⟨⟨jC,hjC,rfl⟩,TP,o2⟩
    have O:=O.trans o2
    have QE:=o2.heap QE (by omega)
    have hjC0:(0:Int)≤(jC:Int):=Int.natCast_nonneg _
    have hjC1:(jC:Int)<(k:Int):=by omega
    refine hK.out _ _ (⟨O,QE⟩) (fun hHeld=>nrm ?_)
    clear hK K
    refine tk 18 ?_
    refine tk 19 (hy:=Or.inl ⟨by rfl,by intro w hSw;obtain ⟨e0,e1,e2,e3⟩:=(RAF.out jC hjC).1 w hSw.1;go_simp;try with_reducible rfl⟩) ?_
    exact LAST12 iA rB jC k9 p9 n9 ts9 A9 c9 gE gF w2 (And.intro hiA (And.intro hrB (And.intro hjC (And.intro O (And.intro TP (And.intro QE hgE))))))
   have hgF:wr.heap.size≤wz.heap.size:=O.size
   have O:=O.al oZF
   have TP:=TP.al oZF
   have hEF:gE≠wz.heap.size:=Nat.ne_of_lt (zL QE)
   have QE:=al_heap QE oZF
   have QF:=zW wz oZF
   go_simp
   refine hK.out _ _ (⟨O,QE⟩) (fun hHeld=>nrm ?_)
   clear hK K
   obtain ⟨w2,hwA⟩:∃w2,wz.alloc oZF=w2:=⟨_,rfl⟩
   rw [hwA] at O TP QF QE hHeld ⊢
   clear hwA
   obtain ⟨gF,hg⟩:∃g,wz.heap.size=g:=⟨_,rfl⟩
   rw [hg] at QF hgF hEF ⊢
   exact LAST13 iA rB jC k9 p9 n9 ts9 A9 c9 gE gF w2 (And.intro hiA (And.intro hrB (And.intro O (And.intro TP (And.intro QE (And.intro hgE (And.intro QF (And.intro hgF hEF))))))))
   rintro iA rB jC k9 p9 n9 ts9 A9 c9 gE gF wz ⟨hiA,O,TP,QE,hgE,QF,hgF,hEF⟩
   refine rd1 9 (fun K hK=>?_)
   go_simp
   go_at_call 12
   refine (tapeI_next T 3 _ (by omega) (by omega) TP).mono ?_
   rintro e w2 ⟨⟨rB,hrB,rfl⟩,TP,o2⟩
   have O:=O.trans o2
   have QE:=o2.heap QE (by omega)
   have QF:=o2.heap QF (by omega)
   refine hK.out _ _ (O) (fun hHeld=>nrm ?_)
   clear hK K
   have hrB0:(0:Int)≤(rB:Int):=Int.natCast_nonneg _
   have hrB1:(rB:Int)<3:=by omega
   refine tk 10 ?_
   refine wpAnyH_mono (S':=fun W=>Oth T wr W∧W.heap[gE]?=some (.cells #[.int .i64 1,.int .i64 2,.int .i64 3] 3 (0,0))) (fun _ h=>h.1) _ _ _ _ ?_
   have hM:=And.intro O QE
   refine tk 11 (hy:=Or.inl ⟨by rfl,by intro w hSw;obtain ⟨_,hSe⟩:=hSw;have yr:=rel_cell hSe hrB;go_simp;try with_reducible rfl⟩) ?_
   exact LAST13 iA rB jC k9 p9 n9 ts9 A9 c9 gE gF w2 (And.intro hiA (And.intro hrB (And.intro O (And.intro TP (And.intro QE (And.intro hgE (And.intro QF (And.intro hgF hEF))))))))
   rintro iA rB jC k9 p9 n9 ts9 A9 c9 gE gF wz ⟨hiA,hrB,hjC,O,TP⟩
   refine rd3 7 21 23 (fun K hK=>?_) (fun K hK=>?_) (fun K hK=>?_)
   ·have hgE:wr.heap.size≤wz.heap.size:=O.size
    have O:=O.al oI3
    have TP:=TP.al oI3
    have QE:=zW wz oI3
    go_simp
    refine hK.out _ _ (O) (fun hHeld=>nrm ?_)
    clear hK K
    obtain ⟨w2,hwA⟩:∃w2,wz.alloc oI3=w2:=⟨_,rfl⟩
    rw [hwA] at O TP QE hHeld ⊢
    clear hwA
    obtain ⟨gE,hg⟩:∃g,wz.heap.size=g:=⟨_,rfl⟩
    rw [hg] at QE hgE ⊢
    have hrB0:(0:Int)≤(rB:Int):=Int.natCast_nonneg _
    have hrB1:(rB:Int)<3:=by omega
    refine tk 10 ?_
    refine wpAnyH_mono (S':=fun W=>Oth T wr W∧W.heap[gE]?=some (.cells #[.int .i64 1,.int .i64 2,.int .i64 3] 3 (0,0))) (fun _ h=>h.1) _ _ _ _ ?_
    have hM:=And.intro O QE
    refine tk 11 (hy:=Or.inl ⟨by rfl,by intro w hSw;obtain ⟨_,hSe⟩:=hSw;have yr:=rel_cell hSe hrB;go_simp;try with_reducible rfl⟩) ?_
    exact LAST12 iA rB jC k9 p9 n9 ts9 A9 c9 gE gF w2 (And.intro hiA (And.intro hrB (And.intro hjC (And.intro O (And.intro TP (And.intro QE hgE))))))
   ·go_simp
    go_at_call 29
    refine (PT0.out _ _ hjC O TP).mono ?_
    rintro e w2 ⟨⟨k9,n9,p9,ts9,A9,c9,rfl,V9,Z9⟩,TP,o2⟩
    have O:=O.trans o2
    refine hK.out _ _ (O) (fun hHeld=>nrm ?_)
    clear hK K
    exact LAST14 iA rB jC k9 p9 n9 ts9 A9 c9 gE gF w2 (And.intro hiA (And.intro hrB (And.intro O (And.intro TP (And.intro V9 Z9)))))
   have hgF:wr.heap.size≤wz.heap.size:=O.size
   have O:=O.al oZF
   have TP:=TP.al oZF
   have QF:=zW wz oZF
   go_simp
   refine hK.out _ _ (O) (fun hHeld=>nrm ?_)
   clear hK K
   obtain ⟨w2,hwA⟩:∃w2,wz.alloc oZF=w2:=⟨_,rfl⟩
   rw [hwA] at O TP QF hHeld ⊢
   clear hwA
   obtain ⟨gF,hg⟩:∃g,wz.heap.size=g:=⟨_,rfl⟩
   rw [hg] at QF hgF ⊢
   exact LAST15 iA rB jC k9 p9 n9 ts9 A9 c9 gE gF w2 (And.intro hiA (And.intro hrB (And.intro hjC (And.intro O (And.intro TP (And.intro QF hgF))))))
   rintro iA rB jC k9 p9 n9 ts9 A9 c9 gE gF wz ⟨hiA,hrB,O,TP,QF,hgF⟩
   refine rd2 7 17 (fun K hK=>?_) (fun K hK=>?_)
   ·have hgE:wr.heap.size≤wz.heap.size:=O.size
    have O:=O.al oI3
    have TP:=TP.al oI3
    have hEF:wz.heap.size≠gF:=Nat.ne_of_gt (zL QF)
    have QF:=al_heap QF oI3
    have QE:=zW wz oI3
    go_simp
    refine hK.out _ _ (O) (fun hHeld=>nrm ?_)
    clear hK K
    obtain ⟨w2,hwA⟩:∃w2,wz.alloc oI3=w2:=⟨_,rfl⟩
    rw [hwA] at O TP QE QF hHeld ⊢
    clear hwA
    obtain ⟨gE,hg⟩:∃g,wz.heap.size=g:=⟨_,rfl⟩
    rw [hg] at QE hgE hEF ⊢
    have hrB0:(0:Int)≤(rB:Int):=Int.natCast_nonneg _
    have hrB1:(rB:Int)<3:=by omega
    refine tk 10 ?_
    refine wpAnyH_mono (S':=fun W=>Oth T wr W∧W.heap[gE]?=some (.cells #[.int .i64 1,.int .i64 2,.int .i64 3] 3 (0,0))) (fun _ h=>h.1) _ _ _ _ ?_
    have hM:=And.intro O QE
    refine tk 11 (hy:=Or.inl ⟨by rfl,by intro w hSw;obtain ⟨_,hSe⟩:=hSw;have yr:=rel_cell hSe hrB;go_simp;try with_reducible rfl⟩) ?_
    exact LAST13 iA rB jC k9 p9 n9 ts9 A9 c9 gE gF w2 (And.intro hiA (And.intro hrB (And.intro O (And.intro TP (And.intro QE (And.intro hgE (And.intro QF (And.intro hgF hEF))))))))
   go_simp
   go_at_call 12
   refine (tapeI_next T k _ (by omega) (by omega) TP).mono ?_
   rintro e w2 ⟨⟨jC,hjC,rfl⟩,TP,o2⟩
   have O:=O.trans o2
   have QF:=o2.heap QF (by omega)
   have hjC0:(0:Int)≤(jC:Int):=Int.natCast_nonneg _
   have hjC1:(jC:Int)<(k:Int):=by omega
   refine hK.out _ _ (O) (fun hHeld=>nrm ?_)
   clear hK K
   refine tk 18 ?_
   refine tk 19 (hy:=Or.inl ⟨by rfl,by intro w hSw;obtain ⟨e0,e1,e2,e3⟩:=(RAF.out jC hjC).1 w hSw;go_simp;try with_reducible rfl⟩) ?_
   exact LAST15 iA rB jC k9 p9 n9 ts9 A9 c9 gE gF w2 (And.intro hiA (And.intro hrB (And.intro hjC (And.intro O (And.intro TP (And.intro QF hgF))))))
   rintro iA rB jC k9 p9 n9 ts9 A9 c9 gE gF wz ⟨hiA,hrB,hjC,O,TP,QE,hgE⟩
   refine rd2 21 23 (fun K hK=>?_) (fun K hK=>?_)
   ·go_simp
    go_at_call 29
    refine (PT0.out _ _ hjC O TP).mono ?_
    rintro e w2 ⟨⟨k9,n9,p9,ts9,A9,c9,rfl,V9,Z9⟩,TP,o2⟩
    have O:=O.trans o2
    have QE:=o2.heap QE (by omega)
    refine hK.out _ _ (⟨O,QE⟩) (fun hHeld=>nrm ?_)
    clear hK K
    refine tk 22 ?_
    exact LAST16 iA rB jC k9 p9 n9 ts9 A9 c9 gE gF w2 (And.intro hiA (And.intro hrB (And.intro O (And.intro TP (And.intro QE (And.intro hgE (And.intro V9 Z9)))))))
   have hgF:wr.heap.size≤wz.heap.size:=O.size
   have O:=O.al oZF
   have TP:=TP.al oZF
   have hEF:gE≠wz.heap.size:=Nat.ne_of_lt (zL QE)
   have QE:=al_heap QE oZF
   have QF:=zW wz oZF
   go_simp
   refine hK.out _ _ (⟨O,QE⟩) (fun hHeld=>nrm ?_)
   clear hK K
   obtain ⟨w2,hwA⟩:∃w2,wz.alloc oZF=w2:=⟨_,rfl⟩
   rw [hwA] at O TP QF QE hHeld ⊢
   clear hwA
   obtain ⟨gF,hg⟩:∃g,wz.heap.size=g:=⟨_,rfl⟩
   rw [hg] at QF hgF hEF ⊢
   exact LAST17 iA rB jC k9 p9 n9 ts9 A9 c9 gE gF w2 (And.intro hiA (And.intro hrB (And.intro hjC (And.intro O (And.intro TP (And.intro QE (And.intro hgE (And.intro QF (And.intro hgF hEF)))))))))
   rintro iA rB jC k9 p9 n9 ts9 A9 c9 gE gF wz ⟨hiA,hrB,O,TP,QE,hgE,QF,hgF,hEF⟩
   refine rd1 17 (fun K hK=>?_)
   go_simp
   go_at_call 12
   refine (tapeI_next T k _ (by omega) (by omega) TP).mono ?_
   rintro e w2 ⟨⟨jC,hjC,rfl⟩,TP,o2⟩
   have O:=O.trans o2
   have QE:=o2.heap QE (by omega)
   have QF:=o2.heap QF (by omega)
   have hjC0:(0:Int)≤(jC:Int):=Int.natCast_nonneg _
   have hjC1:(jC:Int)<(k:Int):=by omega
   refine hK.out _ _ (⟨O,QE⟩) (fun hHeld=>nrm ?_)
   clear hK K
   refine tk 18 ?_
   refine tk 19 (hy:=Or.inl ⟨by rfl,by intro w hSw;obtain ⟨e0,e1,e2,e3⟩:=(RAF.out jC hjC).1 w hSw.1;go_simp;try with_reducible rfl⟩) ?_
   exact LAST17 iA rB jC k9 p9 n9 ts9 A9 c9 gE gF w2 (And.intro hiA (And.intro hrB (And.intro hjC (And.intro O (And.intro TP (And.intro QE (And.intro hgE (And.intro QF (And.intro hgF hEF)))))))))
   rintro iA rB jC k9 p9 n9 ts9 A9 c9 gE gF wz ⟨hiA,hrB,O,TP,V9,Z9⟩
   refine rd2 7 23 (fun K hK=>?_) (fun K hK=>?_)
   ·have hgE:wr.heap.size≤wz.heap.size:=O.size
    have O:=O.al oI3
    have TP:=TP.al oI3
    have QE:=zW wz oI3
    have V9:=v9a V9 ((zB wz.heap.size wz).alloc (zN _) oI3)
    go_simp
    refine hK.out _ _ (O) (fun hHeld=>nrm ?_)
    clear hK K
    obtain ⟨w2,hwA⟩:∃w2,wz.alloc oI3=w2:=⟨_,rfl⟩
    rw [hwA] at O TP QE V9 hHeld ⊢
    clear hwA
    obtain ⟨gE,hg⟩:∃g,wz.heap.size=g:=⟨_,rfl⟩
    rw [hg] at QE hgE ⊢
    have hrB0:(0:Int)≤(rB:Int):=Int.natCast_nonneg _
    have hrB1:(rB:Int)<3:=by omega
    refine tk 10 ?_
    refine wpAnyH_mono (S':=fun W=>Oth T wr W∧W.heap[gE]?=some (.cells #[.int .i64 1,.int .i64 2,.int .i64 3] 3 (0,0))) (fun _ h=>h.1) _ _ _ _ ?_
    have hM:=And.intro O QE
    refine tk 11 (hy:=Or.inl ⟨by rfl,by intro w hSw;obtain ⟨_,hSe⟩:=hSw;have yr:=rel_cell hSe hrB;go_simp;try with_reducible rfl⟩) ?_
    refine tk 22 ?_
    exact LAST16 iA rB jC k9 p9 n9 ts9 A9 c9 gE gF w2 (And.intro hiA (And.intro hrB (And.intro O (And.intro TP (And.intro QE (And.intro hgE (And.intro V9 Z9)))))))
   have hgF:wr.heap.size≤wz.heap.size:=O.size
   have O:=O.al oZF
   have TP:=TP.al oZF
   have QF:=zW wz oZF
   have V9:=v9b V9 ((zB wz.heap.size wz).alloc (zN _) oZF) (zN _)
   go_simp
   refine hK.out _ _ (O) (fun hHeld=>nrm ?_)
   clear hK K
   obtain ⟨w2,hwA⟩:∃w2,wz.alloc oZF=w2:=⟨_,rfl⟩
   rw [hwA] at O TP QF V9 hHeld ⊢
   clear hwA
   obtain ⟨gF,hg⟩:∃g,wz.heap.size=g:=⟨_,rfl⟩
   rw [hg] at QF hgF V9 ⊢
   exact LAST18 iA rB jC k9 p9 n9 ts9 A9 c9 gE gF w2 (And.intro hiA (And.intro hrB (And.intro O (And.intro TP (And.intro QF (And.intro hgF (And.intro V9 Z9)))))))
   rintro iA rB jC k9 p9 n9 ts9 A9 c9 gE gF wz ⟨hiA,hrB,hjC,O,TP,QF,hgF⟩
   refine rd2 7 21 (fun K hK=>?_) (fun K hK=>?_)
   ·have hgE:wr.heap.size≤wz.heap.size:=O.size
    have O:=O.al oI3
    have TP:=TP.al oI3
    have hEF:wz.heap.size≠gF:=Nat.ne_of_gt (zL QF)
    have QF:=al_heap QF oI3
    have QE:=zW wz oI3
    go_simp
    refine hK.out _ _ (O) (fun hHeld=>nrm ?_)
    clear hK K
    obtain ⟨w2,hwA⟩:∃w2,wz.alloc oI3=w2:=⟨_,rfl⟩
    rw [hwA] at O TP QE QF hHeld ⊢
    clear hwA
    obtain ⟨gE,hg⟩:∃g,wz.heap.size=g:=⟨_,rfl⟩
    rw [hg] at QE hgE hEF ⊢
    have hrB0:(0:Int)≤(rB:Int):=Int.natCast_nonneg _
    have hrB1:(rB:Int)<3:=by omega
    refine tk 10 ?_
    refine wpAnyH_mono (S':=fun W=>Oth T wr W∧W.heap[gE]?=some (.cells #[.int .i64 1,.int .i64 2,.int .i64 3] 3 (0,0))) (fun _ h=>h.1) _ _ _ _ ?_
    have hM:=And.intro O QE
    refine tk 11 (hy:=Or.inl ⟨by rfl,by intro w hSw;obtain ⟨_,hSe⟩:=hSw;have yr:=rel_cell hSe hrB;go_simp;try with_reducible rfl⟩) ?_
    exact LAST17 iA rB jC k9 p9 n9 ts9 A9 c9 gE gF w2 (And.intro hiA (And.intro hrB (And.intro hjC (And.intro O (And.intro TP (And.intro QE (And.intro hgE (And.intro QF (And.intro hgF hEF)))))))))
   go_simp
   go_at_call 29
   refine (PT1.out _ _ _ hjC O TP hgF (zL QF)).mono ?_
   rintro e w2 ⟨⟨k9,n9,p9,ts9,A9,c9,rfl,V9,Z9⟩,TP,o2⟩
   have O:=O.trans o2
   have QF:=o2.heap QF (by omega)
   refine hK.out _ _ (O) (fun hHeld=>nrm ?_)
   clear hK K
   exact LAST18 iA rB jC k9 p9 n9 ts9 A9 c9 gE gF w2 (And.intro hiA (And.intro hrB (And.intro O (And.intro TP (And.intro QF (And.intro hgF (And.intro V9 Z9)))))))
   rintro iA rB jC k9 p9 n9 ts9 A9 c9 gE gF wz ⟨hiA,hrB,O,TP,QE,hgE,V9,Z9⟩
   refine rd1 23 (fun K hK=>?_)
   have hgF:wr.heap.size≤wz.heap.size:=O.size
   have O:=O.al oZF
   have TP:=TP.al oZF
   have hEF:gE≠wz.heap.size:=Nat.ne_of_lt (zL QE)
   have QE:=al_heap QE oZF
   have QF:=zW wz oZF
   have V9:=v9b V9 ((zB wz.heap.size wz).alloc (zN _) oZF) (zN _)
   go_simp
   refine hK.out _ _ (⟨O,QE⟩) (fun hHeld=>nrm ?_)
   clear hK K
   obtain ⟨w2,hwA⟩:∃w2,wz.alloc oZF=w2:=⟨_,rfl⟩
   rw [hwA] at O TP QF QE V9 hHeld ⊢
   clear hwA
   obtain ⟨gF,hg⟩:∃g,wz.heap.size=g:=⟨_,rfl⟩
   rw [hg] at QF hgF hEF V9 ⊢
   exact LAST19 iA rB jC k9 p9 n9 ts9 A9 c9 gE gF w2 (And.intro hiA (And.intro hrB (And.intro O (And.intro TP (And.intro QE (And.intro hgE (And.intro QF (And.intro hgF (And.intro hEF (And.intro V9 Z9))))))))))
   rintro iA rB jC k9 p9 n9 ts9 A9 c9 gE gF wz ⟨hiA,hrB,hjC,O,TP,QE,hgE,QF,hgF,hEF⟩
   refine rd1 21 (fun K hK=>?_)
   go_simp
   go_at_call 29
   refine (PT1.out _ _ _ hjC O TP hgF (zL QF)).mono ?_
   rintro e w2 ⟨⟨k9,n9,p9,ts9,A9,c9,rfl,V9,Z9⟩,TP,o2⟩
   have O:=O.trans o2
   have QE:=o2.heap QE (by omega)
   have QF:=o2.heap QF (by omega)
   refine hK.out _ _ (⟨O,QE⟩) (fun hHeld=>nrm ?_)
   clear hK K
   refine tk 22 ?_
   exact LAST19 iA rB jC k9 p9 n9 ts9 A9 c9 gE gF w2 (And.intro hiA (And.intro hrB (And.intro O (And.intro TP (And.intro QE (And.intro hgE (And.intro QF (And.intro hgF (And.intro hEF (And.intro V9 Z9))))))))))
   rintro iA rB jC k9 p9 n9 ts9 A9 c9 gE gF wz ⟨hiA,hrB,O,TP,QF,hgF,V9,Z9⟩
   refine rd1 7 (fun K hK=>?_)
   have hgE:wr.heap.size≤wz.heap.size:=O.size
   have O:=O.al oI3
   have TP:=TP.al oI3
   have hEF:wz.heap.size≠gF:=Nat.ne_of_gt (zL QF)
   have QF:=al_heap QF oI3
   have QE:=zW wz oI3
   have V9:=v9a V9 ((zB wz.heap.size wz).alloc (zN _) oI3)
   go_simp
   refine hK.out _ _ (O) (fun hHeld=>nrm ?_)
   clear hK K
   obtain ⟨w2,hwA⟩:∃w2,wz.alloc oI3=w2:=⟨_,rfl⟩
   rw [hwA] at O TP QE QF V9 hHeld ⊢
   clear hwA
   obtain ⟨gE,hg⟩:∃g,wz.heap.size=g:=⟨_,rfl⟩
   rw [hg] at QE hgE hEF ⊢
   have hrB0:(0:Int)≤(rB:Int):=Int.natCast_nonneg _
   have hrB1:(rB:Int)<3:=by omega
   refine tk 10 ?_
   refine wpAnyH_mono (S':=fun W=>Oth T wr W∧W.heap[gE]?=some (.cells #[.int .i64 1,.int .i64 2,.int .i64 3] 3 (0,0))) (fun _ h=>h.1) _ _ _ _ ?_
   have hM:=And.intro O QE
   refine tk 11 (hy:=Or.inl ⟨by rfl,by intro w hSw;obtain ⟨_,hSe⟩:=hSw;have yr:=rel_cell hSe hrB;go_simp;try with_reducible rfl⟩) ?_
   refine tk 22 ?_
   exact LAST19 iA rB jC k9 p9 n9 ts9 A9 c9 gE gF w2 (And.intro hiA (And.intro hrB (And.intro O (And.intro TP (And.intro QE (And.intro hgE (And.intro QF (And.intro hgF (And.intro hEF (And.intro V9 Z9))))))))))
   rintro iA rB jC k9 p9 n9 ts9 A9 c9 gE gF wz ⟨hiA,hrB,O,TP,QE,hgE,QF,hgF,hEF,V9,Z9⟩
   refine rd1 24 (fun K hK=>?_)
   obtain ⟨s1,s2,s3,s4,s5,s6,s7,s8,s9,h1',h2',h3',h4',h5',h6',h7',h8',h9',⟨y0,y1,y2,y3,y4,y5,y6,y7,y8⟩,⟨ff0,ff1,ff2,ff3,ff4,ff5,ff6,ff7,ff8⟩,hq9,hot9⟩:=put9 QF (.int .i64 (fk iA)) (S (fn iA)) (.int .i64 (fp iA)) (.slice (fB iA) (fl iA).length (fc iA)) (.int .i64 ((rB:Int)+1)) (.int .i64 k9) (S n9) (.int .i64 p9) (.slice A9 ts9.length c9)
   have OS:=oth_put O hot9 (by omega)
   have LV:=(LAF.out iA hiA).2
   have HR:Hid (∃g,Value.pointer (some ⟨gF,0,none⟩)=.pointer (some ⟨g,0,none⟩)∧FVar w wr T w5.heap.size (.slice F nf f0) ts g s9):=zH ⟨gF,rfl,⟨.node (fk iA) (fn iA) (fp iA) (fl iA),(rB:Int)+1,.node k9 n9 p9 ts9⟩,fk iA,fn iA,fp iA,fl iA,fB iA,fc iA,k9,n9,p9,ts9,A9,c9,by omega,⟨rfl,rfl⟩,hq9,⟨LV.2.keep (fun b hb hlt=>OS.block b hlt (fun e=>by have:=zO e;have:=hb.1;omega)) OS.size (fun b hlt hb=>⟨hb,by omega⟩),V9.keep (fun b hb hlt=>hot9.block b hlt (fun e=>by have:=zO e;have:=hb.2;omega)) hot9.size (fun b hlt hb=>hb)⟩,⟨(show (rB:Int)+1=1∨(rB:Int)+1=2∨(rB:Int)+1=3 from by omega),by have:=HGT.out _ LV.1;exact this,.inr LV.1,Z9⟩,OS,TP.oth (by omega) hot9⟩
   clear hq9 LV
   go_simp
   refine hK.out _ _ (⟨OS,hot9.heap QE hEF⟩) (fun hHeld=>nrm ?_)
   clear hK K
   refine wpAnyH_done (by kernel_rfl) ?_ _
   go_wp2_with fail
   go_meet
   exact HR
  obtain ⟨g,rfl,hFV⟩:=hcut.out
  have V0:=zH hFV
  clear hcut hFV QC LAF RAF PT0 PT1
  have hTr:T<wr.heap.size:=by omega
  have hpow:(2:Nat) ^ (2+1)=8:=rfl
  go_wp2_with fail
  refine (tapeI_next T 3 wc (by omega) (by omega) V0.out.tape).mono ?_
  rintro e w21 ⟨⟨r5,hr5,rfl⟩,T21,o21⟩
  have V1:=zH (V0.out.othT hTw hwo o21 T21)
  clear V0 T21 o21
  go_upto_if 84 with fail
  go_cut [] (fun wx=>Hid (FVar w wr T w5.heap.size (.slice F nf f0) ts g wx))
  case first =>
   by_cases hr50:r5=0
   ·subst hr50
    go_wp2_with fail
    refine (mObj_any 2 (by omega) T nk w21 (by omega) V1.out.tape).mono ?_
    rintro e w22 ⟨⟨t1,v1,rfl,hv1,hq1,hp1⟩,T22,o22⟩
    obtain ⟨k1,n1,p1,l1,he1⟩:=Lfc.Raw.ex t1
    rw [he1] at hv1 hq1 hp1
    obtain ⟨B1,c1,rfl,hPt1⟩:=hv1.openT
    have V8:=zH hv1
    have HQ8:=zH (And.intro hq1 hp1)
    have T8:=zH T22
    have O8:=zH o22
    have s22:=o22.size
    clear hv1 hq1 hp1 T22 o22 he1 hPt1
    go_wp2_with fail
    refine (mObj_any 2 (by omega) T nk w22 (by omega) T8.out).mono ?_
    rintro e w23 ⟨⟨t2,v2,rfl,hv2,hq2,hp2⟩,T23,o23⟩
    obtain ⟨k2,n2,p2,l2,he2⟩:=Lfc.Raw.ex t2
    rw [he2] at hv2 hq2 hp2
    obtain ⟨B2,c2,rfl,hPt2⟩:=hv2.openT
    have s23:=o23.size
    have h21:=V1.out
    obtain ⟨f,kx,nx,px,lx,Ax,cx,ky,ny,py,ly,Ay,cy,hgw,he,hqg,h12,hgood,ho1,ht1⟩:=h21
    have hgT:g≠T:=by omega
    have hg21:=zL hqg
    have s21:=ho1.size
    obtain ⟨s1,s2,s3,s4,h1',h2',h3',h4',⟨y0,y1,y2,y3⟩,⟨ff0,ff1,ff2,ff3⟩,hq4,hot4⟩:=put9l ((O8.out.trans o23).heap hqg hgT) (.int .i64 k1) (S n1) (.int .i64 p1) (.slice B1 l1.length c1)
    obtain ⟨s5,s6,s7,s8,h5',h6',h7',h8',⟨y5,y6,y7,y8⟩,⟨ff5,ff6,ff7,ff8⟩,hq8,hot8⟩:=put9r hq4 (.int .i64 k2) (S n2) (.int .i64 p2) (.slice B2 l2.length c2)
    have HN:Hid (FVar w wr T w5.heap.size (.slice F nf f0) ts g s8):=zH (V1.out.set (f:=⟨.node k1 n1 p1 l1,f.rel,.node k2 n2 p2 l2⟩) hTr (O8.out.trans o23) T23 (hot4.trans hot8) ⟨rfl,rfl⟩ hq8 (V8.out.keep (fun b hb hlt=>o23.block b hlt (fun e=>by have:=zO e;have hb:w21.heap.size≤b:=hb;omega)) o23.size (fun b _ hb=>by have hb:w21.heap.size≤b:=hb;exact ⟨hqn2 b (by omega),by omega⟩)) (hv2.keep (fun _ _ _=>rfl) (zN _) (fun b _ hb=>by have hb:w22.heap.size≤b:=hb;exact ⟨hqn2 b (by omega),by omega⟩)) ⟨hgood.1,by have:=HQ8.out.1;show (Lfc.Raw.node k1 n1 p1 l1).size≤40;omega,.inl ⟨by have:=HQ8.out.1;show (Lfc.Raw.node k1 n1 p1 l1).size≤40;omega,Lfc.posB_mono (by omega) _ HQ8.out.2⟩,⟨by show (Lfc.Raw.node k2 n2 p2 l2).size≤40;omega,Lfc.posB_mono (by omega) _ hp2⟩⟩)
    clear hv2 hq2 hp2 T23 o23 he2 hPt2 hqg h12 hgood ho1 ht1 hq4 hot4 hq8 hot8 he V1 V8 HQ8 T8 O8
    go_wp2_with fail
    go_meet
    exact HN
   have hr51:((r5:Int) == 0)=false:=by simp;omega
   clear hr50
   go_wp2_with fail
   go_meet
   exact V1
  have V2:=zH hcut.out
  clear hcut V1
  have qF:=(zC (V2.out.oth.heap HI.out.blk (by omega)) 0:wc.cell? ⟨w5.heap.size,0,none⟩=some (.slice F nf f0))
  go_upto_region 17 with fail
  go_cut [101] (fun s wx=>∃bb:Bool,s=.bool bb∧Hid ((bb=true→0<nf)∧FVar w wr T w5.heap.size (.slice F nf f0) ts g wx))
  case first =>
   by_cases hnf:0<nf
   ·have hnf1:decide ((nf:Int)>0)=true:=by rw [decide_eq_true_eq];omega
    have hnf2:decide (0<(nf:Int))=true:=by rw [decide_eq_true_eq];omega
    go_wp2_with fail
    refine (tapeI_next T 3 wc (by omega) (by omega) V2.out.tape).mono ?_
    rintro e w24 ⟨⟨r6,hr6,rfl⟩,T24,o24⟩
    have V3:∀bb:Bool,Hid ((bb=true→0<nf)∧FVar w wr T w5.heap.size (.slice F nf f0) ts g w24):=fun bb=>zH ⟨fun _=>hnf,V2.out.othT hTw hwo o24 T24⟩
    clear V2 T24 o24
    go_wp2_with fail
    go_meet
    exact ⟨_,rfl,V3 _⟩
   obtain rfl:nf=0:=by omega
   have hnf1:decide (((0:Nat):Int)>0)=false:=by decide
   have V3:Hid ((false=true→0<0)∧FVar w wr T w5.heap.size (.slice F 0 f0) ts g wc):=zH ⟨fun h=>(by cases h),V2.out⟩
   clear V2 hnf
   go_wp2_with fail
   go_meet
   exact ⟨_,rfl,V3⟩
  obtain ⟨bb,rfl,hb3⟩:=hcut
  have hnb:=hb3.out.1
  have V3:=zH hb3.out.2
  clear hb3 V2 qF
  go_upto_if 101 with fail
  go_cut [] (fun wx=>Hid (FVar w wr T w5.heap.size (.slice F nf f0) ts g wx))
  case first =>
   cases bb with
   | false =>
    go_wp2_with fail
    go_meet
    exact V3
   | true =>
    have hnf:=hnb rfl
    have qF:=(zC (V3.out.oth.heap HI.out.blk (by omega)) 0:wc.cell? ⟨w5.heap.size,0,none⟩=some (.slice F nf f0))
    obtain ⟨m,hm⟩:∃m,nf-1=m:=⟨_,rfl⟩
    have hmw:IntKind.i64.wrap ((nf:Int)-1)=(m:Int):=by rw [IntWalk.i64_in _ (by omega)];omega
    have hm0:(0:Int)≤(m:Int):=by omega
    have hm1:(m:Int)<(nf:Int):=by omega
    have hX:=HI.out.row
    obtain ⟨xF,hown,hrow⟩:=hX
    obtain ⟨gF,fl,rfl,hbF,hltF,hmem,k2,n2,p2,l2,B2,c2,k3,n3,p3,l3,B3,c3,e1,e2,q03,q4,⟨q5,q6,q7,q8⟩,hv2,hv3⟩:=fact_at HI.out.lf (show m<nf by omega) hown hrow
    have hgFT:gF≠T:=by omega
    have q5':=(V3.out.oth.cell (p:=⟨gF,m*9+5,none⟩) hltF hgFT).trans q5
    have q6':=(V3.out.oth.cell (p:=⟨gF,m*9+6,none⟩) hltF hgFT).trans q6
    have q7':=(V3.out.oth.cell (p:=⟨gF,m*9+7,none⟩) hltF hgFT).trans q7
    have q8':=(V3.out.oth.cell (p:=⟨gF,m*9+8,none⟩) hltF hgFT).trans q8
    have h21:=V3.out
    obtain ⟨f,kx,nx,px,lx,Ax,cx,ky,ny,py,ly,Ay,cy,hgw,he,hqg,h12,hgood,ho1,ht1⟩:=h21
    have hgT:g≠T:=by omega
    have hgr:=HI.out.gf fl hmem
    obtain ⟨s1,s2,s3,s4,h1',h2',h3',h4',⟨y0,y1,y2,y3⟩,⟨ff0,ff1,ff2,ff3⟩,hq4,hot4⟩:=put9l hqg (.int .i64 k3) (S n3) (.int .i64 p3) (.slice B3 l3.length c3)
    have HN:Hid (FVar w wr T w5.heap.size (.slice (some ⟨gF,0,none⟩) nf f0) ts g s4):=zH (V3.out.set (f:=⟨.node k3 n3 p3 l3,f.rel,f.r⟩) hTr (Oth.refl T wc) V3.out.tape hot4 ⟨rfl,he.2⟩ hq4 (by rw [←e2];exact hv3.keep (fun b hb hlt=>ho1.block b hlt (fun e=>by have:=zO e;have:=hb.1;omega)) ho1.size (fun b hlt hb=>⟨hb,by omega⟩)) h12.2 ⟨hgood.1,by show (Lfc.Raw.node k3 n3 p3 l3).size≤40;rw [←e2];exact hgr.2.2.2.1,.inl (by show Lfc.good (Lfc.Raw.node k3 n3 p3 l3);rw [←e2];exact hgr.2.2.2),hgood.2.2.2⟩)
    clear hown hrow hmem hqg h12 hgood ho1 ht1 hq4 hot4 he V3 hgr hv2 hv3 e1 e2 q03 q4 q5 q6 q7 q8
    go_wp2_with fail
    go_meet
    exact HN
  have V4:=zH hcut.out
  clear hcut V3 hnb
  have AS:=zH (HI.out.othT hTw hQ0 hBw V4.out.oth V4.out.tape)
  have hX:=AS.out.row
  obtain ⟨xF,hown,hrow⟩:=hX
  have h21:=V4.out
  obtain ⟨f,kx,nx,px,lx,Ax,cx,ky,ny,py,ly,Ay,cy,hgw,he,hqg,h12,hgood,ho1,ht1⟩:=h21
  have qF:=(zC AS.out.blk 0:wc.cell? ⟨w5.heap.size,0,none⟩=some (.slice F nf f0))
  obtain ⟨y0,y1,y2,y3,y4,y5,y6,y7,y8⟩:=cells9q hqg
  have HOW:=zH hown
  have HRW:=zH hrow
  have HV2:=zH h12
  have HGD:=zH hgood
  have HE:=zH he
  have hsB:=HI.out.size
  have hsc:=ho1.size
  obtain ⟨fr,hfr⟩:∃fr,f.rel=fr:=⟨_,rfl⟩
  have HFR:=zH hfr
  rw [hfr] at y4
  have hlm:nf+1≤maxLen:=by unfold maxLen;omega
  have hl120:(nf+1)*120≤140737488355328:=by omega
  clear hown hrow hqg h12 hgood ho1 ht1 he V4 hfr
  go_wp2_with (at_builtin;refine wpList_append_own_at _ rfl _ _ 23 rfl wB.heap.size 70 iF (.agg #[.int .i64 0,S [],.int .i64 0,.slice none 0 0,.int .i64 0,.int .i64 0,S [],.int .i64 0,.slice none 0 0]) 9 120 Tryz.underlying23 hiF hF0 hF1 hF2 rfl (by decide) _ _ _ rfl (HOW.out.alloc _) ⟨wc.heap.size,0,none⟩ 1 1 [.int .i64 kx,S nx,.int .i64 px,.slice Ax lx.length cx,.int .i64 fr,.int .i64 ky,S ny,.int .i64 py,.slice Ay ly.length cy] rfl rfl (fun jj v hj=>ocells_new wc _ rfl [.int .i64 kx,S nx,.int .i64 px,.slice Ax lx.length cx,.int .i64 fr,.int .i64 ky,S ny,.int .i64 py,.slice Ay ly.length cy] 70 jj v hj) oneCell9 hlm hl120 (oalloc_le (by omega)) ?_)
  intro v9 w9 hown9 hg9 _ hloc9
  obtain ⟨F9,c9,rfl⟩:=oform hown9
  obtain ⟨e10,A10⟩:=As2.push (w9:=w9) (f:=f) AS.out hTw hQ0 hQB HOW.out HRW.out HE.out (HV2.out.1.keep (fun _ _ _=>rfl) (zN _) (fun b _ hb=>hb.1)) (HV2.out.2.keep (fun _ _ _=>rfl) (zN _) (fun b _ hb=>hb.1)) HGD.out (by rw [HFR.out];exact hown9) hg9 hloc9
  have eblk:=e10.trans AS.out.blk
  have qF9:=(zC eblk 0:w9.cell? ⟨w5.heap.size,0,none⟩=some (.slice F nf f0))
  have fF9:=zF eblk 0
  have HN:=zH A10
  clear hown9 hg9 hloc9 e10 A10 eblk AS HOW HRW HV2 HGD HE y0 y1 y2 y3 y4 y5 y6 y7 y8 qF
  go_wp2_with fail
  go_roundw
  case rel=>exact ⟨j-1,fs++[f],nf+1,F9,c9,by omega,by go_num,HN⟩
  case measure=>simp [intOf];omega
 obtain rfl:j=0:=by omega
 have hj1:decide (((0:Nat):Int)>0)=false:=by decide
 have hQw:=zL HI.out.blk
 have hsw:=HI.out.size
 have hw18:2*3 ^ 2=18:=rfl
 go_wp2_with fail
 refine (mOrderOf_any 2 (by omega) T k wr (by omega) (by omega) HI.out.tape).mono ?_
 rintro e w31 ⟨⟨o,vo,rfl,hvo,hzo,_⟩,T31,o31⟩
 obtain ⟨k1,a1,os⟩:=o
 obtain ⟨B1,c1,rfl,hP1⟩:=hvo.open_
 have b31:=o31.heap HI.out.blk (by omega)
 obtain ⟨s1,s2,s3,h1',h2',h3',⟨y2,y3,y4⟩,⟨ff2,ff3,ff4⟩,hq3,hot3⟩:=put11o b31 (.int .i64 k1) (.int .i64 a1) (.slice B1 os.length c1)
 obtain ⟨s4,s5,s6,h4',h5',h6',⟨y5,y6,y7⟩,⟨ff5,ff6,ff7⟩,hq6,hot6⟩:=put11p hq3 (.int .i64 k1) (.int .i64 a1) (.slice B1 os.length c1)
 have z2:=(zC hq3 2:s3.cell? ⟨w5.heap.size,2,none⟩=some (.int .i64 k1))
 have z3:=(zC hq3 3:s3.cell? ⟨w5.heap.size,3,none⟩=some (.int .i64 a1))
 have z4:=(zC hq3 4:s3.cell? ⟨w5.heap.size,4,none⟩=some (.slice B1 os.length c1))
 have A3:=zH (HI.out.three hTw hQ0 hQB o31 T31 hvo (by omega) (hot3.trans hot6) hq6 (by omega) (by omega) HLEN.out.1 HLEN.out.2 HNK.out hkl LN.out.1 LN.out.2 HGT.out HGU.out)
 clear HI hvo hzo T31 o31 hP1 b31 hq3 hot3 hq6 hot6
 go_wp2_with fail
 refine (tapeI_next T 5 s6 (by omega) (by omega) A3.out.tape).mono ?_
 rintro e w32 ⟨⟨r7,hr7,rfl⟩,T32,o32⟩
 have A4:=zH (A3.out.othT hTw hQ0 o32 T32)
 clear A3 T32 o32 z2 z3 z4 h1' h2' h3' y2 y3 y4 ff2 ff3 ff4 h4' h5' h6' y5 y6 y7 ff5 ff6 ff7
 go_upto_if 127 with fail
 go_cut [] (fun wx=>Hid (∃p k2 a2 B2 l2 c2,As3 w T w5.heap.size rel A0 nk c0 ks k ts us AL cl AR cr fs nf F f0 (.node k1 a1 os) p k1 a1 B1 os.length c1 k2 a2 B2 l2 c2 wx))
 case first =>
  by_cases hr70:r7=0
  ·subst hr70
   go_wp2_with fail
   refine (mOrderOf_any 2 (by omega) T k w32 (by omega) (by omega) A4.out.tape).mono ?_
   rintro e w33 ⟨⟨p,vp,rfl,hvp,hzp,_⟩,T33,o33⟩
   obtain ⟨k2,a2,ps⟩:=p
   obtain ⟨B2,c2,rfl,hP2⟩:=hvp.open_
   obtain ⟨s4,s5,s6,h4',h5',h6',⟨y5,y6,y7⟩,⟨ff5,ff6,ff7⟩,hq6,hot6⟩:=put11p (o33.heap A4.out.blk (by omega)) (.int .i64 k2) (.int .i64 a2) (.slice B2 ps.length c2)
   have HN:Hid (∃p k2 a2 B2 l2 c2,As3 w T w5.heap.size rel A0 nk c0 ks k ts us AL cl AR cr fs nf F f0 (.node k1 a1 os) p k1 a1 B1 os.length c1 k2 a2 B2 l2 c2 s6):=zH ⟨.node k2 a2 ps,k2,a2,B2,ps.length,c2,A4.out.pset hTw hQ0 o33 T33 hvp (by omega) hot6 hq6⟩
   clear A4 hvp hzp T33 o33 hP2 hq6 hot6
   go_wp2_with fail
   go_meet
   exact HN
  have hr71:((r7:Int) == 0)=false:=by simp;omega
  have HN:Hid (∃p k2 a2 B2 l2 c2,As3 w T w5.heap.size rel A0 nk c0 ks k ts us AL cl AR cr fs nf F f0 (.node k1 a1 os) p k1 a1 B1 os.length c1 k2 a2 B2 l2 c2 w32):=zH ⟨_,_,_,_,_,_,A4.out⟩
  clear hr70 A4
  go_wp2_with fail
  go_meet
  exact HN
 obtain ⟨p,k2,a2,B2,l2,c2,hA5⟩:=hcut.out
 have A5:=zH hA5
 clear hcut A4 hA5
 obtain ⟨z0,z1,z2,z3,z4,z5,z6,z7,z8,z9,z10⟩:=cells11q A5.out.blk
 obtain ⟨s1,s2,s3,s4,s5,s6,s7,s8,s9,s10,s11,h1',h2',h3',h4',h5',h6',h7',h8',h9',h10',h11',⟨y0,y1,y2,y3,y4,y5,y6,y7,y8,y9,y10⟩,⟨f0',f1',f2',f3',f4',f5',f6',f7',f8',f9',f10'⟩,hq11,hot11⟩:=put11 A5.out.res (.slice F nf f0) (.int .i64 rel) (.int .i64 k1) (.int .i64 a1) (.slice B1 os.length c1) (.int .i64 k2) (.int .i64 a2) (.slice B2 l2 c2) (.slice AL k cl) (.slice AR k cr) (.slice A0 nk c0)
 have HZ:=zH (A5.out.ans hTw HREL.out hot11)
 have HQ11:=zH hq11
 clear A5 hq11 hot11
 go_wp2_with fail
 refine bodyPost_ret (results_que rfl _ _ _ _ _ _ _ _ _ _ _ _ _ _ rfl HQ11.out) rfl ?_
 exact HZ.out
end Go.Proofs.YtadjpadieljjlaaGreat
