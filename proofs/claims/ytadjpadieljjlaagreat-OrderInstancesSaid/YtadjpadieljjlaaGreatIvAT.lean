/- Parts of the proof that no input makes the law false: SmPair2, OrMade, SmOrd, OcAk1. -/
import Derived.Test.YtadjpadieljjlaaGreatIvAS
set_option linter.unusedVariables false
set_option linter.unusedSimpArgs false
set_option maxRecDepth 100000
set_option maxHeartbeats 32000000
namespace Go.Proofs.YtadjpadieljjlaaGreat
open Go.RowKit Go.Maps
attribute [local go_sem ↓] Go.wp_at_zero Go.wp_at_succ
theorem mPair_any (T:Nat) (ks:List Int) (A0:Option Addr) (c0:Nat) (w:World) (hks:ks.length≤40) (hT:TapeI T w) :
  Calls Tryz.prog 18 #[.pointer (some ⟨T,0,none⟩),.slice A0 ks.length c0] w (PairAns w T 40):=by
 have hTl:=hT.lt
 obtain ⟨vars,hvars⟩:∃vars,ks.length=vars:=⟨_,rfl⟩
 rw [hvars] at hks ⊢
 clear hvars
 obtain ⟨w2,hw2⟩:∃w2,(w.alloc (.cells #[.int .i64 0,S [],.int .i64 0,.slice none 0 0] 51)).alloc (.cells #[.int .i64 0,S [],.int .i64 0,.slice none 0 0] 51)=w2:=⟨_,rfl⟩
 have b12:Below w.heap.size w w2:=by rw [←hw2];exact ((zB _ _).alloc (zN _) _).alloc (by simp) _
 have q1:w2.heap[w.heap.size]?=some (.cells #[.int .i64 0,S [],.int .i64 0,.slice none 0 0] 51 (0,0)):=by rw [←hw2];exact (zA _ _ _ (by simp)).trans (zW _ _)
 have q2:w2.heap[w.heap.size+1]?=some (.cells #[.int .i64 0,S [],.int .i64 0,.slice none 0 0] 51 (0,0)):=by
  rw [←hw2]
  have:=zW (w.alloc (.cells #[.int .i64 0,S [],.int .i64 0,.slice none 0 0] 51)) (.cells #[.int .i64 0,S [],.int .i64 0,.slice none 0 0] 51)
  simpa using this
 have hs2:=zL q2
 have Q1:=zH q1
 have Q2:=zH q2
 have T2:=zH (hT.below b12)
 have O2:Hid (Oth T w w2):=zH (Oth.of_below b12)
 clear hT b12 q1 q2
 go_enter Tryz.func18,Tryz.ntmps18
 go_upto_region 1 with fail
 clear hw2
 go_wp2_with fail
 refine (mObj_any 4 (by omega) T vars w2 (by omega) T2.out).mono ?_
 rintro e w3 ⟨⟨u,vu,rfl,hvu,hsu,hpu⟩,T3',o3'⟩
 obtain ⟨ku,nu,pu,us,hue⟩:=Lfc.Raw.ex u
 rw [hue] at hvu hsu hpu
 obtain ⟨Au,cu,rfl,hPu⟩:=hvu.openT
 have hs3:=o3'.size
 obtain ⟨w4,hw4⟩:∃w4,w3.alloc (.cells #[.int .i64 ku,S nu,.int .i64 pu,.slice Au us.length cu] 51)=w4:=⟨_,rfl⟩
 have b4:=zG hw4
 have q4:=zQ hw4
 have l4:=zL q4
 have o24:Oth T w2 w4:=o3'.of_new (b4.mono hs3)
 have T4:=zH (T3'.below b4)
 have O4:=zH (O2.out.trans o24)
 have Q14:=zH (o24.heap Q1.out (by omega))
 have Q24:=zH (o24.heap Q2.out (by omega))
 have Q4:=zH q4
 have HVU:Hid (TreeVP (fun b=>w.heap.size≤b∧b≠w.heap.size∧b≠w.heap.size+1) w4 (.node ku nu pu us) (.agg #[.int .i64 ku,S nu,.int .i64 pu,.slice Au us.length cu])):=zH (hvu.keep (fun b _ hlt=>b4.block b hlt) b4.size (fun b _ hb=>by have hb:w2.heap.size≤b:=hb;exact ⟨by omega,by omega,by omega⟩))
 have hsu2:(Lfc.Raw.node ku nu pu us).size≤31:=by omega
 have HPU:=zH (Lfc.posB_mono (b':=1048576) (by omega) _ hpu)
 have H4:=zH hw4
 clear hvu hPu hsu hpu T3' o3' b4 q4 o24 hw4 T2 O2 Q1 Q2 hue
 go_upto_region 2 with fail
 rw [H4.out]
 clear H4
 go_wp2_with fail
 refine (tapeI_next T 4 w4 (by omega) (by omega) T4.out).mono ?_
 rintro e w5 ⟨⟨r,hr,rfl⟩,T5',o5'⟩
 have hs5:=o5'.size
 have T5:=zH T5'
 have O5:=zH (O4.out.trans o5')
 have Q15:=zH (o5'.heap Q14.out (by omega))
 have Q25:=zH (o5'.heap Q24.out (by omega))
 have QU5:=zH (o5'.heap Q4.out (by omega))
 have HV5:=zH (HVU.out.keep (fun b hb hlt=>o5'.block b hlt (fun e=>by have:=zO e;have:=hb.1;omega)) o5'.size (fun b _ hb=>hb))
 clear T5' o5' T4 O4 Q14 Q24 Q4 HVU
 by_cases hr0:r=0
 ·subst hr0
  go_upto_region 3 with fail
  have RET:Hid (∀w6,Oth T w5.drew w6→TapeI T w6→∀ (kx px:Int) (nx:List UInt8) (xs:List Lfc.Raw) (Ax:Option Addr) (cx:Nat),TreeVP (fun b=>w5.drew.heap.size≤b) w6 (.node kx nx px xs) (.agg #[.int .i64 kx,S nx,.int .i64 px,.slice Ax (List.length xs) cx])→(Lfc.Raw.node kx nx px xs).size+1≤2 ^ (2+1) →
   (w6.cell? ⟨w3.heap.size,0,none⟩=some (.int .i64 ku)∧w6.cell? ⟨w3.heap.size,1,none⟩=some (S nu)∧w6.cell? ⟨w3.heap.size,2,none⟩=some (.int .i64 pu)∧w6.cell? ⟨w3.heap.size,3,none⟩=some (.slice Au us.length cu)) ∧
   ∃s1 s2 s3 s4,w6.setCell ⟨w.heap.size,0,none⟩ (.int .i64 kx)=s1∧s1.setCell ⟨w.heap.size,1,none⟩ (S nx)=s2∧s2.setCell ⟨w.heap.size,2,none⟩ (.int .i64 px)=s3∧s3.setCell ⟨w.heap.size,3,none⟩ (.slice Ax (List.length xs) cx)=s4 ∧
   (w6.cell? ⟨w.heap.size,0,none⟩=some (.int .i64 0)∧s1.cell? ⟨w.heap.size,1,none⟩=some (S [])∧s2.cell? ⟨w.heap.size,2,none⟩=some (.int .i64 0)∧s3.cell? ⟨w.heap.size,3,none⟩=some (.slice none 0 0)) ∧
   (w6.frozen? ⟨w.heap.size,0,none⟩=false∧s1.frozen? ⟨w.heap.size,1,none⟩=false∧s2.frozen? ⟨w.heap.size,2,none⟩=false∧s3.frozen? ⟨w.heap.size,3,none⟩=false) ∧
   (s4.cell? ⟨w3.heap.size,0,none⟩=some (.int .i64 ku)∧s4.cell? ⟨w3.heap.size,1,none⟩=some (S nu)∧s4.cell? ⟨w3.heap.size,2,none⟩=some (.int .i64 pu)∧s4.cell? ⟨w3.heap.size,3,none⟩=some (.slice Au us.length cu)) ∧
   ∃s5 s6 s7 s8,s4.setCell ⟨w.heap.size+1,0,none⟩ (.int .i64 ku)=s5∧s5.setCell ⟨w.heap.size+1,1,none⟩ (S nu)=s6∧s6.setCell ⟨w.heap.size+1,2,none⟩ (.int .i64 pu)=s7∧s7.setCell ⟨w.heap.size+1,3,none⟩ (.slice Au us.length cu)=s8 ∧
   (s4.cell? ⟨w.heap.size+1,0,none⟩=some (.int .i64 0)∧s5.cell? ⟨w.heap.size+1,1,none⟩=some (S [])∧s6.cell? ⟨w.heap.size+1,2,none⟩=some (.int .i64 0)∧s7.cell? ⟨w.heap.size+1,3,none⟩=some (.slice none 0 0)) ∧
   (s4.frozen? ⟨w.heap.size+1,0,none⟩=false∧s5.frozen? ⟨w.heap.size+1,1,none⟩=false∧s6.frozen? ⟨w.heap.size+1,2,none⟩=false∧s7.frozen? ⟨w.heap.size+1,3,none⟩=false) ∧
   Hid (s8.heap[w.heap.size]?=some (.cells #[.int .i64 kx,S nx,.int .i64 px,.slice Ax (List.length xs) cx] 51 (0,0)))∧Hid (s8.heap[w.heap.size+1]?=some (.cells #[.int .i64 ku,S nu,.int .i64 pu,.slice Au us.length cu] 51 (0,0))) ∧
   Hid (PairAns w T 40 (.returned (.tuple #[.agg #[.int .i64 kx,S nx,.int .i64 px,.slice Ax (List.length xs) cx],.agg #[.int .i64 ku,S nu,.int .i64 pu,.slice Au us.length cu]])) s8)):=zH (fun w6 o6 t6 kx px nx xs Ax cx hvx hsx=>by
    have o6':Oth T w5 w6:=⟨o6.os,o6.tape,o6.output,o6.size,o6.block⟩
    have hz:=cells4t (o6'.heap QU5.out (by omega))
    have hs6:=o6'.size
    obtain ⟨s1,s2,s3,s4,g1,g2,g3,g4,hy,hf,hk4,hrest⟩:=pair_ret (n:=40) hTl (O5.out.trans o6') t6 (o6'.heap Q15.out (by omega)) (o6'.heap Q25.out (by omega)) (hvx.keep (fun _ _ _=>rfl) (zN _) (fun b _ hb=>by have hb:w5.heap.size≤b:=hb;exact ⟨by omega,by omega,by omega⟩)) (HV5.out.keep (fun b hb hlt=>o6'.block b hlt (fun e=>by have:=zO e;have:=hb.1;omega)) o6'.size (fun b _ hb=>hb)) (by omega) (by omega) HPU.out
    have hkk:∀j,s4.cell? ⟨w3.heap.size,j,none⟩=w6.cell? ⟨w3.heap.size,j,none⟩:=fun j=>hk4 _ j (by omega) (by omega)
    exact ⟨hz,s1,s2,s3,s4,g1,g2,g3,g4,hy,hf,⟨(hkk 0).trans hz.1,(hkk 1).trans hz.2.1,(hkk 2).trans hz.2.2.1,(hkk 3).trans hz.2.2.2⟩,hrest⟩)
  obtain ⟨v0,v1,v2,v3⟩:=cells4t QU5.out
  go_region_law (go_simp;go_at_call 28;refine (mObj_any 2 (by omega) T vars _ (by omega) (T5.out.below (zB _ _).drew)).mono ?_;rintro e w6 ⟨⟨x,vx,rfl,hvx,hsx,hpx⟩,T6,o6⟩;obtain ⟨kx,nx,px,xs,hxe⟩:=Lfc.Raw.ex x;rw [hxe] at hvx hsx;obtain ⟨Ax,cx,rfl,hPx⟩:=hvx.openT;obtain ⟨⟨z0,z1,z2,z3⟩,s1,s2,s3,s4,g1,g2,g3,g4,⟨y0,y1,y2,y3⟩,⟨f0,f1,f2,f3⟩,⟨z4,z5,z6,z7⟩,s5,s6,s7,s8,g5,g6,g7,g8,⟨y4,y5,y6,y7⟩,⟨f4,f5,f6,f7⟩,HQa,HQb,HZ⟩:=RET.out w6 o6 T6 kx px nx xs Ax cx hvx hsx)
  all_goals
   clear hvx hPx T6 o6
   go_wp2_with fail
   refine bodyPost_ret (results_terms2 rfl _ _ _ _ _ _ _ _ _ _ _ _ rfl rfl HQa.out HQb.out) rfl ?_
   exact HZ.out
 have hr1:((r:Int) == 0)=false:=by simp;omega
 clear hr0
 obtain ⟨v0,v1,v2,v3⟩:=cells4t QU5.out
 go_wp2_with fail
 refine (mPart_any (fun b=>w.heap.size≤b∧b≠w.heap.size∧b≠w.heap.size+1) T vars 31 _ _ w5 (by omega) (by omega) hsu2 HPU.out T5.out (fun b hb=>by have:=hb.1;omega) (fun b hb=>⟨by have:=T5.out.lt;omega,by omega,by omega⟩) HV5.out).mono ?_
 rintro e w6 ⟨⟨kx,nx,px,xs,Ax,cx,rfl,hvx,hsx,_⟩,T6',o6'⟩
 have hs6:=o6'.size
 obtain ⟨w7,hw7⟩:∃w7,w6.alloc (.cells #[.int .i64 kx,S nx,.int .i64 px,.slice Ax xs.length cx] 51)=w7:=⟨_,rfl⟩
 have b7:=zG hw7
 have q7:=zQ hw7
 have o57:Oth T w5 w7:=o6'.of_new (b7.mono hs6)
 have PS7:Hid (PairS w T w3.heap.size w6.heap.size 31 ku pu nu us Au cu w7):=zH {
  x:=⟨kx,nx,px,xs,Ax,cx,q7,hvx.keep (fun b _ hlt=>b7.block b hlt) b7.size (fun b hlt hb=>⟨hb.1,hb.2.1,hb.2.2,by omega⟩),by omega⟩
  u:=o57.heap QU5.out (by omega)
  uv:=HV5.out.keep (fun b hb hlt=>o57.block b hlt (fun e=>by have:=zO e;have:=hb.1;omega)) o57.size (fun b hlt hb=>⟨hb.1,hb.2.1,hb.2.2,by omega⟩)
  tape:=T6'.below b7
  oth:=O5.out.trans o57
  r4:=o57.heap Q15.out (by omega)
  r5:=o57.heap Q25.out (by omega) }
 have H7:=zH hw7
 have hBx:w3.heap.size<w6.heap.size:=by omega
 clear hvx hsx T6' o6' b7 q7 o57 hw7 v0 v1 v2 v3 T5 O5 Q15 Q25 QU5 HV5
 go_upto_region 5 with fail
 rw [H7.out]
 clear H7
 go_wp2_with fail
 refine (tapeI_next T 6 w7 (by omega) (by omega) PS7.out.tape).mono ?_
 rintro e w8 ⟨⟨r2,hr2,rfl⟩,T8',o8'⟩
 have PS8:Hid (PairS w T w3.heap.size w6.heap.size 31 ku pu nu us Au cu w8):=zH (by
  obtain ⟨k,nm,p,ts,A,c,hq,hv,hz⟩:=PS7.out.x
  exact ⟨⟨k,nm,p,ts,A,c,o8'.heap hq (by omega),hv.keep (fun b hb hlt=>o8'.block b hlt (fun e=>by have:=zO e;have:=hb.1;omega)) o8'.size (fun b _ hb=>hb),hz⟩,o8'.heap PS7.out.u (by omega),PS7.out.uv.keep (fun b hb hlt=>o8'.block b hlt (fun e=>by have:=zO e;have:=hb.1;omega)) o8'.size (fun b _ hb=>hb),T8',PS7.out.oth.trans o8',o8'.heap PS7.out.r4 (by omega),o8'.heap PS7.out.r5 (by omega)⟩)
 clear T8' o8' PS7
 go_upto_if 27 with fail
 go_cut [] (fun wx=>Hid (PairS w T w3.heap.size w6.heap.size 40 ku pu nu us Au cu wx))
 case first =>
  by_cases hr20:r2=0
  ·subst hr20
   obtain ⟨k,nm,p,ts,A,c,hq,hv,hz⟩:=PS8.out.x
   obtain ⟨x0,x1,x2,x3⟩:=cells4t hq
   have HQ8:=zH hq
   have HV8:=zH hv
   have T8:=zH PS8.out.tape
   have hB8:=zL hq
   have hz39:(Lfc.Raw.node k nm p ts).size≤31:=hz
   have hBT:w6.heap.size≠T:=by omega
   have FAC:Hid (∀w9 w10,Oth T w8.drew w9→Oth T w9 w10→(w9.heap[w6.heap.size]?=some (.cells #[.int .i64 k,S nm,.int .i64 p,.slice A ts.length c] 51 (0,0))∧w10.heap[w6.heap.size]?=some (.cells #[.int .i64 k,S nm,.int .i64 p,.slice A ts.length c] 51 (0,0)))∧Oth T w8 w10∧TreeVP (fun b=>w.heap.size≤b∧b≠w.heap.size∧b≠w.heap.size+1∧b≠w6.heap.size) w10 (.node k nm p ts) (.agg #[.int .i64 k,S nm,.int .i64 p,.slice A ts.length c])):=zH (fun w9 w10 o9 o10=>by
    have o9':Oth T w8 w9:=⟨o9.os,o9.tape,o9.output,o9.size,o9.block⟩
    have q9:=o9'.heap HQ8.out hBT
    exact ⟨⟨q9,o10.heap q9 hBT⟩,o9'.trans o10,HV8.out.keep (fun b hb hlt=>(o9'.trans o10).block b hlt (fun e=>by have:=zO e;have:=hb.1;omega)) (o9'.trans o10).size (fun b _ hb=>hb)⟩)
   clear hq hv hz
   go_upto_region 6 with fail
   go_region_law (first
    | (go_simp;go_at_call 12;refine (tapeI_next T 99 _ (by omega) (by omega) (T8.out.below (zB _ _).drew)).mono ?_;rintro e w9 ⟨⟨a,ha,rfl⟩,T9,o9⟩;have q9:=(FAC.out w9 w9 o9 (Oth.refl _ _)).1.1;obtain ⟨e0,e1,e2,e3⟩:=cells4t q9)
    | (go_simp;go_at_call 12;refine (tapeI_next T 99 w9 (by omega) (by omega) T9).mono ?_;rintro e w10 ⟨⟨b,hb,rfl⟩,T10,o10⟩;obtain ⟨⟨_,q10⟩,o810,hv10⟩:=FAC.out w9 w10 o9 o10;obtain ⟨d0,d1,d2,d3⟩:=cells4t q10)
    | (go_simp;go_at_call 39;refine (s_spoil_any 40 (by omega) _ _ w10 _ _ _ (by omega) hv10).mono ?_;rintro e w11 ⟨⟨t',v',rfl,hv',hz'⟩,b11⟩;obtain ⟨k',n',p',ts',ht'⟩:=Lfc.Raw.ex t';rw [ht'] at hv' hz';obtain ⟨A',c',rfl,hP'⟩:=hv'.openT;obtain ⟨s1,s2,s3,s4,g1,g2,g3,g4,⟨y0,y1,y2,y3⟩,⟨f0,f1,f2,f3⟩,hq4,hot⟩:=tput4 ((b11.block _ (zL q10)).trans q10) (.int .i64 k') (S n') (.int .i64 p') (.slice A' ts'.length c')))
   all_goals
    have HN:=zH (PS8.out.put (n':=40) hTl (by omega) hBx hB8 o810 T10 b11 hot hq4 hv' (by omega))
    clear T9 o9 q9 T10 o10 q10 o810 hv10 b11 hot hq4 hv' hP' hz'
    go_wp2_with fail
    go_meet
    exact HN
  have hr21:((r2:Int) == 0)=false:=by simp;omega
  clear hr20
  go_wp2_with fail
  go_meet
  exact zH (PS8.out.mono (by omega))
 have PS:=hcut
 clear PS8 hcut
 obtain ⟨k,nm,p,ts,A,c,hq,hv,hz⟩:=PS.out.x
 obtain ⟨x0,x1,x2,x3⟩:=cells4t hq
 obtain ⟨z0,z1,z2,z3⟩:=cells4t PS.out.u
 have hb1:=zL hq
 have hb2:=zL PS.out.u
 obtain ⟨s1,s2,s3,s4,g1,g2,g3,g4,⟨y0,y1,y2,y3⟩,⟨f0,f1,f2,f3⟩,hk4,s5,s6,s7,s8,g5,g6,g7,g8,⟨y4,y5,y6,y7⟩,⟨f4,f5,f6,f7⟩,HQa,HQb,HZ⟩:=pair_ret (n:=40) hTl PS.out.oth PS.out.tape PS.out.r4 PS.out.r5 (hv.keep (fun _ _ _=>rfl) (zN _) (fun b _ hb=>⟨hb.1,hb.2.1,hb.2.2.1⟩)) (PS.out.uv.keep (fun _ _ _=>rfl) (zN _) (fun b _ hb=>⟨hb.1,hb.2.1,hb.2.2.1⟩)) hz (by omega) HPU.out
 have hkx:∀j,s4.cell? ⟨w6.heap.size,j,none⟩=wc.cell? ⟨w6.heap.size,j,none⟩:=fun j=>hk4 _ j hb1 (by omega)
 have hku:∀j,s4.cell? ⟨w3.heap.size,j,none⟩=wc.cell? ⟨w3.heap.size,j,none⟩:=fun j=>hk4 _ j hb2 (by omega)
 have a0:=(hkx 0).trans x0
 have a1:=(hkx 1).trans x1
 have a2:=(hkx 2).trans x2
 have a3:=(hkx 3).trans x3
 have c0':=(hku 0).trans z0
 have c1':=(hku 1).trans z1
 have c2':=(hku 2).trans z2
 have c3':=(hku 3).trans z3
 have HZD:=zH HZ.out.drew
 clear hkx hku hk4 hq hv hz PS
 go_upto_region 7 with fail
 go_region_law (fail)
 all_goals
  go_wp2_with fail
  refine bodyPost_ret (results_terms2 rfl _ _ _ _ _ _ _ _ _ _ _ _ rfl rfl HQa.out HQb.out) rfl ?_
  first | exact HZD.out | exact HZ.out
end Go.Proofs.YtadjpadieljjlaaGreat
namespace Go.Proofs.YtadjpadieljjlaaGreat
open Go.RowKit Go.Maps
attribute [local go_sem ↓] Go.wp_at_zero Go.wp_at_succ
theorem TapeI.same {T:Nat} {w w':World} (h:TapeI T w) (hk:∀b,b≤T→w'.heap[b]?=w.heap[b]?):TapeI T w':=by
 obtain ⟨A,n,c,i,ht,hi,hn,hc⟩:=h.t
 refine ⟨⟨A,n,c,i,(hk T (zN _)).trans ht,hi,hn,fun hp=>?_⟩⟩
 obtain ⟨b,o,hA,hbT,hx⟩:=hc hp
 refine ⟨b,o,hA,hbT,fun k hk2=>?_⟩
 obtain ⟨x,hx⟩:=hx k hk2
 exact ⟨x,(World.cell?_of_block (hk b (by omega))).trans hx⟩
structure MkI (wa:World) (T R base P:Nat) (k:Int) (os:List Lfc.Ord) (A:Option Addr) (c:Nat) (xs:List Value) (wr:World):Prop where
 r:wr.heap[R]?=some (.cells #[.int .i64 k,.int .i64 0,.slice A os.length c] 26 (0,0))
 own:wr.ownsRow base 26 3 (.slice A os.length c) os.length xs
 row:ORow (fun b=>base≤b∧some b≠(Value.slice A os.length c).ownBlock) wr os xs
 oth:Oth T wa wr
 tape:TapeI T wr
 size:base≤wr.heap.size
 few:Lfc.Ord.sizes os+os.length≤os.length*P
 mods:Lfc.Ord.mods 1000 os=true
def MadeO (w:World) (T P:Nat) (e:Ending) (w':World):Prop :=
 (∃o v,e=.returned v∧OrdVP (fun b=>w.heap.size≤b) w' o v∧o.size+1≤P∧o.mod 1000=true)∧TapeI T w'∧Oth T w w'
end Go.Proofs.YtadjpadieljjlaaGreat
namespace Go.Proofs.YtadjpadieljjlaaGreat
open Go.RowKit Go.Maps
attribute [local go_sem ↓] Go.wp_at_zero Go.wp_at_succ
def okTab:List Int:=[2,3]
theorem okTab_cell (w:World) (r:Nat) (hr:r<2):(w.alloc (.cells #[.int .i64 2,.int .i64 3] 3)).cell? ⟨w.heap.size,r,none⟩=some (.int .i64 (okTab.getD r 0)):=by
 have q:=zW w (.cells #[.int .i64 2,.int .i64 3] 3)
 match r,hr with
 | 0,_=>exact zC q 0
 | 1,_=>exact zC q 1
theorem mOrderOf_any:∀ (d:Nat),d≤3→∀ (T n:Nat) (w:World),0<n→n≤100→TapeI T w →
  Calls Tryz.prog 30 #[.pointer (some ⟨T,0,none⟩),.int .i64 (d:Int),.int .i64 (n:Int)] w (MadeO w T (2*3 ^ d)):=by
 intro d
 induction d using Nat.strongRecOn with
 | ind d ih0 =>
 intro hd3 T n w hn0 hn1 hT
 have IH:=zH ih0
 clear ih0
 have hTl:=hT.lt
 obtain ⟨i0,hi,hz0,hz1,hz2⟩:=ord_info
 obtain ⟨wa,hwa⟩:∃wa,w.alloc (.cells #[.int .i64 0,.int .i64 0,.slice none 0 0] 26)=wa:=⟨_,rfl⟩
 have ba:=zG hwa
 have qa:=zQ hwa
 have la:=zL qa
 have QA:=zH qa
 have OA:Hid (Oth T w wa):=zH (Oth.of_below ba)
 have TA:=zH (hT.below ba)
 have hp1:1≤3 ^ d:=Nat.one_le_pow _ _ (by omega)
 have leaf:∀ (r2:Nat) (w2:World),r2<n→TapeI T w2→Oth T wa w2→∃s1 s2 s3,w2.setCell ⟨w.heap.size,0,none⟩ (.int .i64 1)=s1∧s1.setCell ⟨w.heap.size,1,none⟩ (.int .i64 (r2:Int))=s2∧s2.setCell ⟨w.heap.size,2,none⟩ (.slice none 0 0)=s3 ∧
   (w2.cell? ⟨w.heap.size,0,none⟩=some (.int .i64 0)∧s1.cell? ⟨w.heap.size,1,none⟩=some (.int .i64 0)∧s2.cell? ⟨w.heap.size,2,none⟩=some (.slice none 0 0)) ∧
   (w2.frozen? ⟨w.heap.size,0,none⟩=false∧s1.frozen? ⟨w.heap.size,1,none⟩=false∧s2.frozen? ⟨w.heap.size,2,none⟩=false) ∧
   s3.heap[w.heap.size]?=some (.cells #[.int .i64 1,.int .i64 (r2:Int),.slice none 0 0] 26 (0,0))∧Hid (MadeO w T (2*3 ^ d) (.returned (.agg #[.int .i64 1,.int .i64 (r2:Int),.slice none 0 0])) s3):=by
  intro r2 w2 hr2 t2 o2
  have hq2:=o2.heap QA.out (show w.heap.size≠T by omega)
  obtain ⟨s1,s2,s3,g1,g2,g3,hy,hf,hq,hot⟩:=oput3 hq2 (.int .i64 1) (.int .i64 (r2:Int)) (.slice none 0 0)
  refine ⟨s1,s2,s3,g1,g2,g3,hy,hf,hq,zH ⟨⟨.node 1 (r2:Int) [],_,rfl,OrdVP.mk (ts:=[]) (Nat.zero_le _) (fun h=>absurd rfl h),?_,?_⟩,t2.oth (by omega) hot,?_⟩⟩
  ·simp only [Lfc.Ord.size,Lfc.Ord.sizes]
   omega
  ·simp only [Lfc.Ord.mod,Lfc.Ord.mods,Bool.and_true,Bool.and_eq_true,decide_eq_true_eq]
   omega
  refine Oth.of_new (OA.out.trans o2) ⟨hot.os,hot.tape,hot.output,hot.size,fun b hb=>hot.block b (by have:=o2.size;omega) (fun e=>by have:=zO e;omega)⟩
 have LEAF:=zH leaf
 clear leaf hT ba qa hp1
 go_enter Tryz.func30,Tryz.ntmps30
 go_upto_region 1 with fail
 clear hwa
 by_cases hd0:d=0
 ·subst hd0
  go_wp2_with fail
  refine (tapeI_next T n wa hn0 hn1 TA.out).mono ?_
  rintro e w2 ⟨⟨r2,hr2,rfl⟩,T2,o2⟩
  obtain ⟨s1,s2,s3,g1,g2,g3,⟨p0,p1,p2⟩,⟨f0,f1,f2⟩,hq,HZ⟩:=LEAF.out r2 w2 hr2 T2 o2
  have HQ:=zH hq
  clear hq T2 o2
  go_wp2_with fail
  refine bodyPost_ret (results_ord rfl _ _ _ _ _ _ rfl HQ.out) rfl ?_
  exact HZ.out
 have hd1:((d:Int) == 0)=false:=by simpa using hd0
 go_wp2_with fail
 refine (tapeI_next T 2 wa (by omega) (by omega) TA.out).mono ?_
 rintro e w1 ⟨⟨r1,hr1,rfl⟩,T1',o1'⟩
 have hs1:=o1'.size
 by_cases hr0:r1=0
 ·subst hr0
  have T1:=zH T1'
  have O1:=zH o1'
  clear T1' o1'
  go_wp2_with fail
  refine (tapeI_next T n w1 hn0 hn1 T1.out).mono ?_
  rintro e w2 ⟨⟨r2,hr2,rfl⟩,T2,o2⟩
  obtain ⟨s1,s2,s3,g1,g2,g3,⟨p0,p1,p2⟩,⟨f0,f1,f2⟩,hq,HZ⟩:=LEAF.out r2 w2 hr2 T2 (O1.out.trans o2)
  have HQ:=zH hq
  clear hq T2 o2
  go_wp2_with fail
  refine bodyPost_ret (results_ord rfl _ _ _ _ _ _ rfl HQ.out) rfl ?_
  exact HZ.out
 have hr11:((r1:Int) == 0)=false:=by simp;omega
 clear hr0
 have hdw:IntKind.i64.wrap ((d:Int)-1)=((d-1:Nat):Int):=by rw [IntWalk.i64_in _ (by omega)];omega
 have IHD:=zH (IH.out (d-1) (by omega) (by omega))
 have hpw:2*3 ^ d=3*(2*3 ^ (d-1)):=by
  obtain ⟨d',rfl⟩:∃d',d=d'+1:=⟨d-1,by omega⟩
  rw [Nat.add_sub_cancel,Nat.pow_succ];omega
 have hpp:2≤2*3 ^ (d-1):=by have:=Nat.one_le_pow (d-1) 3 (by omega);omega
 obtain ⟨PP,hPP⟩:∃PP,2*3 ^ (d-1)=PP:=⟨_,rfl⟩
 rw [hPP] at hpw hpp IHD
 have HPW:=zH (And.intro hpw hpp)
 obtain ⟨wt,hwt⟩:∃wt,w1.alloc (.cells #[.int .i64 2,.int .i64 3] 3)=wt:=⟨_,rfl⟩
 have bt:=zG hwt
 have TAB:Hid (∀r,r<2→wt.cell? ⟨w1.heap.size,r,none⟩=some (.int .i64 (okTab.getD r 0))):=zH (fun r hr=>by rw [←hwt];exact okTab_cell w1 r hr)
 have hst:w1.heap.size<wt.heap.size:=by rw [←hwt];simp
 have TT:=zH (T1'.below bt)
 have OT:=zH (o1'.trans (Oth.of_below bt))
 clear bt T1' o1' hpw hpp hPP IH
 go_wp2_with fail
 refine (tapeI_next T 2 wt (by omega) (by omega) TT.out).mono ?_
 rintro e w0 ⟨⟨r5,hr5,rfl⟩,T0',o0'⟩
 have hs0:=o0'.size
 have yt:=(o0'.cell (p:=⟨w1.heap.size,r5,none⟩) (by simp only;omega) (by simp only;omega)).trans (TAB.out r5 hr5)
 have hi0:(0:Int)≤(r5:Int):=by omega
 have hi1:(r5:Int)<2:=by omega
 generalize okTab.getD r5 0=kk at *
 obtain ⟨w2,hw2⟩:∃w2,w0.alloc (.cells #[.int .i64 kk,.int .i64 0,.slice none 0 0] 26)=w2:=⟨_,rfl⟩
 have b2:=zG hw2
 have q2:=zQ hw2
 have l2:=zL q2
 have T2:=zH (T0'.below b2)
 have O2:=zH ((OT.out.trans o0').trans (Oth.of_below b2))
 have Q2:=zH q2
 have HW2:=zH hw2
 clear hw2 b2 q2 T0' o0' TT OT hwt TAB
 go_upto_region 4 with fail
 rw [HW2.out]
 clear HW2 yt
 go_wp2_with fail
 refine (tapeI_next T 3 w2 (by omega) (by omega) T2.out).mono ?_
 rintro e w3 ⟨⟨r3,hr3,rfl⟩,T3',o3'⟩
 have hs3:=o3'.size
 have hw3:IntKind.i64.wrap (1+(r3:Int))=((r3+1:Nat):Int):=by rw [IntWalk.i64_in _ (by omega)];omega
 have I0:Hid (MkI wa T w0.heap.size (w0.heap.size+1) PP kk [] none 0 [] w3):=zH ⟨o3'.heap Q2.out (by omega),⟨by simp,.inl ⟨rfl,rfl⟩⟩,by rw [ORow],O2.out.trans o3',T3',by omega,by simp [Lfc.Ord.sizes],by simp [Lfc.Ord.mods]⟩
 clear T3' o3'
 obtain ⟨N,hN⟩:∃N,r3+1=N:=⟨_,rfl⟩
 rw [hN] at hw3
 have hN3:N≤3:=by omega
 go_upto_block 0 with fail
 go_wp2_with fail
 go_loopw [8] (fun i wr=>∃ (j:Nat) (os:List Lfc.Ord) (A:Option Addr) (c:Nat) (xs:List Value),j+os.length=N∧i=.int .i64 (j:Int)∧Hid (MkI wa T w0.heap.size (w0.heap.size+1) PP kk os A c xs wr)) (fun i _=>(intOf i).toNat)
 case atStart=>exact ⟨N,[],none,0,[],by simp,rfl,I0⟩
 clear I0
 obtain ⟨j,os,A,c,xs,hjn,rfl,HI⟩:=hrel
 have hsb:=HI.out.size
 have hol:Hid (os.length=os.length):=zH rfl
 by_cases hj:j=0
 ·subst hj
  have hpt:=ord_parts (lo:=w.heap.size) (by omega) HI.out.own HI.out.row
  have HR:=zH HI.out.r
  have hl:os.length=1∨os.length=2∨os.length=3:=by omega
  have hqw:=HI.out.oth.heap QA.out (show w.heap.size≠T by omega)
  obtain ⟨u0,u1,u2⟩:=cells3o HI.out.r
  obtain ⟨s1,s2,s3,g1,g2,g3,⟨p0,p1,p2⟩,⟨f0,f1,f2⟩,hq,hot⟩:=oput3 hqw (.int .i64 kk) (.int .i64 0) (.slice A os.length c)
  have HQ:=zH hq
  have HZ:Hid (MadeO w T (2*3 ^ d) (.returned (.agg #[.int .i64 kk,.int .i64 0,.slice A os.length c])) s3):=zH (by
   refine ⟨⟨.node kk 0 os,_,rfl,OrdVP.mk hpt.2 ?_,?_,?_⟩,HI.out.tape.oth (by omega) hot,?_⟩
   ·have hpt2:=ord_parts (lo:=w0.heap.size) (by omega) HI.out.own HI.out.row
    refine hpt2.1.keep (fun b hb hlt=>?_) hot.size (fun b _ hb=>by have hb:w0.heap.size≤b:=hb;show w.heap.size≤b;omega)
    have hb:w0.heap.size≤b:=hb
    exact hot.block b hlt (fun e=>by have:=zO e;omega)
   ·have h1:=HI.out.few
    have h2:=HPW.out.1
    have h3:=HPW.out.2
    simp only [Lfc.Ord.size]
    rcases hl with hl | hl | hl
    ·rw [hl] at h1;omega
    ·rw [hl] at h1;omega
    rw [hl] at h1;omega
   ·simp only [Lfc.Ord.mod,HI.out.mods,Bool.and_true,Bool.and_eq_true,decide_eq_true_eq]
    omega
   refine Oth.of_new (OA.out.trans HI.out.oth) ⟨hot.os,hot.tape,hot.output,hot.size,fun b hb=>hot.block b (by omega) (fun e=>by have:=zO e;omega)⟩)
  clear hq hot hpt HI hqw hl hjn hol
  go_wp2_with fail
  refine bodyPost_ret (results_ord rfl _ _ _ _ _ _ rfl HQ.out) rfl ?_
  exact HZ.out
 have hj1:decide ((j:Int)>0)=true:=by rw [decide_eq_true_eq];omega
 have hj2:decide ((0:Int)<(j:Int))=true:=by rw [decide_eq_true_eq];omega
 have hjw:IntKind.i64.wrap ((j:Int)-1)=((j-1:Nat):Int):=by rw [IntWalk.i64_in _ (by omega)];omega
 have HR:=zH HI.out.r
 have HOWN:=zH HI.out.own
 have HROW:=zH HI.out.row
 have HOX:=zH HI.out.oth
 have TX:=zH HI.out.tape
 have hbx:=HI.out.size
 have hlo:os.length≤3:=by omega
 have HFM:=zH (And.intro HI.out.few HI.out.mods)
 have HJN:=zH hjn
 obtain ⟨lo,hlo2⟩:∃lo,os.length=lo:=⟨_,rfl⟩
 have hol:=zH hlo2
 rw [hlo2] at HR HOWN HROW hlo
 have yx:wr.cell? ⟨w0.heap.size,2,none⟩=some (.slice A lo c):=zC HR.out 2
 have hlm:lo+1≤maxLen:=by unfold maxLen;omega
 have hl40:(lo+1)*40≤140737488355328:=by omega
 have hrb:w0.heap.size<w0.heap.size+1:=Nat.lt_succ_self _
 have hTr:T<w0.heap.size:=by omega
 have hrT:w0.heap.size≠T:=by omega
 have hTow:(Value.slice A lo c).ownBlock=some T→False:=fun e=>by have:=(HOWN.out.lt _ e).1;omega
 have hwa3:wa.heap.size≤w0.heap.size:=by omega
 clear HI hlo2 hjn
 go_upto_region 7 with fail
 go_region_law (first
  | (go_simp;go_at_call 30;refine (IHD.out T n _ hn0 hn1 (TX.out.below (zB _ _).drew)).mono ?_;rintro e w9 ⟨⟨t9,v9,rfl,hv9,hz9,hm9⟩,T9,o9⟩;obtain ⟨k9,a9,ts9,ht9⟩:=ord_node t9;rw [ht9] at hv9;obtain ⟨A9,c9,rfl,hp9⟩:=hv9.open_;have q9:=o9.heap HR.out hrT;have y9:w9.cell? ⟨w0.heap.size,2,none⟩=some (.slice A lo c):=zC q9 2;have y9a:∀o,(w9.alloc o).cell? ⟨w0.heap.size,2,none⟩=some (.slice A lo c):=fun o=>zC ((zA _ _ _ (zL q9)).trans q9) 2;have hown9:=HOWN.out.drew.kept o9 (Or.inr hTow);have hs9':w0.heap.size+1≤w9.heap.size:=Nat.le_trans hbx o9.size)
  | (refine step_append_own_at _ (by rfl) _ _ 24 (by rfl) (w0.heap.size+1) 26 i0 (.agg #[.int .i64 0,.int .i64 0,.slice none 0 0]) 3 40 Tryz.underlying24 hi hz0 hz1 hz2 rfl (by decide) _ _ _ (by rfl) (hown9.alloc _) ⟨w9.heap.size,0,none⟩ 1 1 [.int .i64 k9,.int .i64 a9,.slice A9 ts9.length c9] (by rfl) (by rfl) (fun j u h=>ocells_new w9 _ rfl [.int .i64 k9,.int .i64 a9,.slice A9 ts9.length c9] _ j u h) oneCell3 hlm hl40 (oalloc_le hs9') ?_;intro v' w10 hown10 hg10 hloc10;obtain ⟨A10,c10,rfl⟩:=oform hown10;obtain ⟨hr10,hfin⟩:=ord_final (ts:=os) hrb hTr hbx hwa3 HR.out (by rw [hol.out];exact HOWN.out) HROW.out HOX.out o9 hp9 (by rw [hol.out];exact hown10) hg10 (oalloc_loc hloc10);have y10:=(zC hr10 2:w10.cell? ⟨w0.heap.size,2,none⟩=some (.slice A lo c));have f10:=zF hr10 2))
 all_goals
  obtain ⟨f1,f2,f3,f4,f5,f6,f7⟩:=hfin
  have HNX:Hid (MkI wa T w0.heap.size (w0.heap.size+1) PP kk (os++[t9]) A10 c10 (xs++[.int .i64 k9,.int .i64 a9,.slice A9 ts9.length c9]) (w10.setCell ⟨w0.heap.size,2,none⟩ (.slice A10 (lo+1) c10))):=zH (by
   have el:(os++[t9]).length=lo+1:=by rw [List.length_append,hol.out];rfl
   refine ⟨by rw [el];exact f1,by rw [el];rw [←ht9,el] at f2;exact f2,by rw [el,ht9];exact f3,f4,T9.same (fun b hb=>?_),f5,?_,?_⟩
   ·by_cases hbT:b=T
    ·rw [hbT];exact f7
    rw [f6 b (by omega) (by omega) hbT]
    exact (o9.block b (by show b<wr.heap.size;omega) (fun e=>hbT (zO e))).symm
   ·rw [el,Lfc.Ord.sizes_app]
    have h1:=HFM.out.1
    rw [hol.out] at h1
    simp only [Lfc.Ord.sizes]
    have h2:(lo+1)*PP=lo*PP+PP:=Nat.succ_mul _ _
    omega
   rw [Lfc.mods_app,HFM.out.2]
   simp only [Lfc.Ord.mods,hm9,Bool.and_true])
  have HJ2:Hid (j-1+(os++[t9]).length=N):=zH (by
   have:=HJN.out
   rw [List.length_append]
   simp only [List.length_singleton]
   omega)
  clear f1 f2 f3 f4 f5 f6 f7 hp9 o9 hown9 hown10 hg10 ht9 hz9 hm9 T9
  go_wp2_with fail
  go_roundw
  case rel=>exact ⟨j-1,os++[t9],A10,c10,_,HJ2.out,rfl,HNX⟩
  case measure=>simp [intOf];omega
end Go.Proofs.YtadjpadieljjlaaGreat
namespace Lfc
def good (t:Raw):Prop:=t.size≤40∧t.posB 1048576=true
end Lfc
namespace Go.Proofs.YtadjpadieljjlaaGreat
open Go.RowKit Go.Maps
theorem put9 {W:World} {R:Nat} {a0 a1 a2 a3 a4 a5 a6 a7 a8:Value} {t:TypeId} (h:W.heap[R]?=some (.cells #[a0,a1,a2,a3,a4,a5,a6,a7,a8] t (0,0))) (v0 v1 v2 v3 v4 v5 v6 v7 v8:Value):∃s1 s2 s3 s4 s5 s6 s7 s8 s9,W.setCell ⟨R,0,none⟩ v0=s1∧s1.setCell ⟨R,1,none⟩ v1=s2∧s2.setCell ⟨R,2,none⟩ v2=s3∧s3.setCell ⟨R,3,none⟩ v3=s4∧s4.setCell ⟨R,4,none⟩ v4=s5∧s5.setCell ⟨R,5,none⟩ v5=s6∧s6.setCell ⟨R,6,none⟩ v6=s7∧s7.setCell ⟨R,7,none⟩ v7=s8∧s8.setCell ⟨R,8,none⟩ v8=s9 ∧
  (W.cell? ⟨R,0,none⟩=some a0∧s1.cell? ⟨R,1,none⟩=some a1∧s2.cell? ⟨R,2,none⟩=some a2∧s3.cell? ⟨R,3,none⟩=some a3∧s4.cell? ⟨R,4,none⟩=some a4∧s5.cell? ⟨R,5,none⟩=some a5∧s6.cell? ⟨R,6,none⟩=some a6∧s7.cell? ⟨R,7,none⟩=some a7∧s8.cell? ⟨R,8,none⟩=some a8) ∧
  (W.frozen? ⟨R,0,none⟩=false∧s1.frozen? ⟨R,1,none⟩=false∧s2.frozen? ⟨R,2,none⟩=false∧s3.frozen? ⟨R,3,none⟩=false∧s4.frozen? ⟨R,4,none⟩=false∧s5.frozen? ⟨R,5,none⟩=false∧s6.frozen? ⟨R,6,none⟩=false∧s7.frozen? ⟨R,7,none⟩=false∧s8.frozen? ⟨R,8,none⟩=false) ∧
  s9.heap[R]?=some (.cells #[v0,v1,v2,v3,v4,v5,v6,v7,v8] t (0,0))∧Oth R W s9:=by
 obtain ⟨s1,h1⟩:∃s1,W.setCell ⟨R,0,none⟩ v0=s1:=⟨_,rfl⟩
 obtain ⟨s2,h2⟩:∃s2,s1.setCell ⟨R,1,none⟩ v1=s2:=⟨_,rfl⟩
 obtain ⟨s3,h3⟩:∃s3,s2.setCell ⟨R,2,none⟩ v2=s3:=⟨_,rfl⟩
 obtain ⟨s4,h4⟩:∃s4,s3.setCell ⟨R,3,none⟩ v3=s4:=⟨_,rfl⟩
 obtain ⟨s5,h5⟩:∃s5,s4.setCell ⟨R,4,none⟩ v4=s5:=⟨_,rfl⟩
 obtain ⟨s6,h6⟩:∃s6,s5.setCell ⟨R,5,none⟩ v5=s6:=⟨_,rfl⟩
 obtain ⟨s7,h7⟩:∃s7,s6.setCell ⟨R,6,none⟩ v6=s7:=⟨_,rfl⟩
 obtain ⟨s8,h8⟩:∃s8,s7.setCell ⟨R,7,none⟩ v7=s8:=⟨_,rfl⟩
 obtain ⟨s9,h9⟩:∃s9,s8.setCell ⟨R,8,none⟩ v8=s9:=⟨_,rfl⟩
 have q1:s1.heap[R]?=some (.cells #[v0,a1,a2,a3,a4,a5,a6,a7,a8] t (0,0)):=by rw [←h1];simp [World.setCell,Array.getElem?_modify,h]
 have q2:s2.heap[R]?=some (.cells #[v0,v1,a2,a3,a4,a5,a6,a7,a8] t (0,0)):=by rw [←h2];simp [World.setCell,Array.getElem?_modify,q1]
 have q3:s3.heap[R]?=some (.cells #[v0,v1,v2,a3,a4,a5,a6,a7,a8] t (0,0)):=by rw [←h3];simp [World.setCell,Array.getElem?_modify,q2]
 have q4:s4.heap[R]?=some (.cells #[v0,v1,v2,v3,a4,a5,a6,a7,a8] t (0,0)):=by rw [←h4];simp [World.setCell,Array.getElem?_modify,q3]
 have q5:s5.heap[R]?=some (.cells #[v0,v1,v2,v3,v4,a5,a6,a7,a8] t (0,0)):=by rw [←h5];simp [World.setCell,Array.getElem?_modify,q4]
 have q6:s6.heap[R]?=some (.cells #[v0,v1,v2,v3,v4,v5,a6,a7,a8] t (0,0)):=by rw [←h6];simp [World.setCell,Array.getElem?_modify,q5]
 have q7:s7.heap[R]?=some (.cells #[v0,v1,v2,v3,v4,v5,v6,a7,a8] t (0,0)):=by rw [←h7];simp [World.setCell,Array.getElem?_modify,q6]
 have q8:s8.heap[R]?=some (.cells #[v0,v1,v2,v3,v4,v5,v6,v7,a8] t (0,0)):=by rw [←h8];simp [World.setCell,Array.getElem?_modify,q7]
 have q9:s9.heap[R]?=some (.cells #[v0,v1,v2,v3,v4,v5,v6,v7,v8] t (0,0)):=by rw [←h9];simp [World.setCell,Array.getElem?_modify,q8]
 refine ⟨s1,s2,s3,s4,s5,s6,s7,s8,s9,h1,h2,h3,h4,h5,h6,h7,h8,h9,⟨zC h 0,zC q1 1,zC q2 2,zC q3 3,zC q4 4,zC q5 5,zC q6 6,zC q7 7,zC q8 8⟩,⟨zF h 0,zF q1 1,zF q2 2,zF q3 3,zF q4 4,zF q5 5,zF q6 6,zF q7 7,zF q8 8⟩,q9,?_⟩
 rw [←h9,←h8,←h7,←h6,←h5,←h4,←h3,←h2,←h1]
 exact ((((((((Oth.set W v0).trans (Oth.set _ v1)).trans (Oth.set _ v2)).trans (Oth.set _ v3)).trans (Oth.set _ v4)).trans (Oth.set _ v5)).trans (Oth.set _ v6)).trans (Oth.set _ v7)).trans (Oth.set _ v8)
theorem put11 {W:World} {R:Nat} {a0 a1 a2 a3 a4 a5 a6 a7 a8 a9 a10:Value} {t:TypeId} (h:W.heap[R]?=some (.cells #[a0,a1,a2,a3,a4,a5,a6,a7,a8,a9,a10] t (0,0))) (v0 v1 v2 v3 v4 v5 v6 v7 v8 v9 v10:Value):∃s1 s2 s3 s4 s5 s6 s7 s8 s9 s10 s11,W.setCell ⟨R,0,none⟩ v0=s1∧s1.setCell ⟨R,1,none⟩ v1=s2∧s2.setCell ⟨R,2,none⟩ v2=s3∧s3.setCell ⟨R,3,none⟩ v3=s4∧s4.setCell ⟨R,4,none⟩ v4=s5∧s5.setCell ⟨R,5,none⟩ v5=s6∧s6.setCell ⟨R,6,none⟩ v6=s7∧s7.setCell ⟨R,7,none⟩ v7=s8∧s8.setCell ⟨R,8,none⟩ v8=s9∧s9.setCell ⟨R,9,none⟩ v9=s10∧s10.setCell ⟨R,10,none⟩ v10=s11 ∧
  (W.cell? ⟨R,0,none⟩=some a0∧s1.cell? ⟨R,1,none⟩=some a1∧s2.cell? ⟨R,2,none⟩=some a2∧s3.cell? ⟨R,3,none⟩=some a3∧s4.cell? ⟨R,4,none⟩=some a4∧s5.cell? ⟨R,5,none⟩=some a5∧s6.cell? ⟨R,6,none⟩=some a6∧s7.cell? ⟨R,7,none⟩=some a7∧s8.cell? ⟨R,8,none⟩=some a8∧s9.cell? ⟨R,9,none⟩=some a9∧s10.cell? ⟨R,10,none⟩=some a10) ∧
  (W.frozen? ⟨R,0,none⟩=false∧s1.frozen? ⟨R,1,none⟩=false∧s2.frozen? ⟨R,2,none⟩=false∧s3.frozen? ⟨R,3,none⟩=false∧s4.frozen? ⟨R,4,none⟩=false∧s5.frozen? ⟨R,5,none⟩=false∧s6.frozen? ⟨R,6,none⟩=false∧s7.frozen? ⟨R,7,none⟩=false∧s8.frozen? ⟨R,8,none⟩=false∧s9.frozen? ⟨R,9,none⟩=false∧s10.frozen? ⟨R,10,none⟩=false) ∧
  s11.heap[R]?=some (.cells #[v0,v1,v2,v3,v4,v5,v6,v7,v8,v9,v10] t (0,0))∧Oth R W s11:=by
 obtain ⟨s1,h1⟩:∃s1,W.setCell ⟨R,0,none⟩ v0=s1:=⟨_,rfl⟩
 obtain ⟨s2,h2⟩:∃s2,s1.setCell ⟨R,1,none⟩ v1=s2:=⟨_,rfl⟩
 obtain ⟨s3,h3⟩:∃s3,s2.setCell ⟨R,2,none⟩ v2=s3:=⟨_,rfl⟩
 obtain ⟨s4,h4⟩:∃s4,s3.setCell ⟨R,3,none⟩ v3=s4:=⟨_,rfl⟩
 obtain ⟨s5,h5⟩:∃s5,s4.setCell ⟨R,4,none⟩ v4=s5:=⟨_,rfl⟩
 obtain ⟨s6,h6⟩:∃s6,s5.setCell ⟨R,5,none⟩ v5=s6:=⟨_,rfl⟩
 obtain ⟨s7,h7⟩:∃s7,s6.setCell ⟨R,6,none⟩ v6=s7:=⟨_,rfl⟩
 obtain ⟨s8,h8⟩:∃s8,s7.setCell ⟨R,7,none⟩ v7=s8:=⟨_,rfl⟩
 obtain ⟨s9,h9⟩:∃s9,s8.setCell ⟨R,8,none⟩ v8=s9:=⟨_,rfl⟩
 obtain ⟨s10,h10⟩:∃s10,s9.setCell ⟨R,9,none⟩ v9=s10:=⟨_,rfl⟩
 obtain ⟨s11,h11⟩:∃s11,s10.setCell ⟨R,10,none⟩ v10=s11:=⟨_,rfl⟩
 have q1:s1.heap[R]?=some (.cells #[v0,a1,a2,a3,a4,a5,a6,a7,a8,a9,a10] t (0,0)):=by rw [←h1];simp [World.setCell,Array.getElem?_modify,h]
 have q2:s2.heap[R]?=some (.cells #[v0,v1,a2,a3,a4,a5,a6,a7,a8,a9,a10] t (0,0)):=by rw [←h2];simp [World.setCell,Array.getElem?_modify,q1]
 have q3:s3.heap[R]?=some (.cells #[v0,v1,v2,a3,a4,a5,a6,a7,a8,a9,a10] t (0,0)):=by rw [←h3];simp [World.setCell,Array.getElem?_modify,q2]
 have q4:s4.heap[R]?=some (.cells #[v0,v1,v2,v3,a4,a5,a6,a7,a8,a9,a10] t (0,0)):=by rw [←h4];simp [World.setCell,Array.getElem?_modify,q3]
 have q5:s5.heap[R]?=some (.cells #[v0,v1,v2,v3,v4,a5,a6,a7,a8,a9,a10] t (0,0)):=by rw [←h5];simp [World.setCell,Array.getElem?_modify,q4]
 have q6:s6.heap[R]?=some (.cells #[v0,v1,v2,v3,v4,v5,a6,a7,a8,a9,a10] t (0,0)):=by rw [←h6];simp [World.setCell,Array.getElem?_modify,q5]
 have q7:s7.heap[R]?=some (.cells #[v0,v1,v2,v3,v4,v5,v6,a7,a8,a9,a10] t (0,0)):=by rw [←h7];simp [World.setCell,Array.getElem?_modify,q6]
 have q8:s8.heap[R]?=some (.cells #[v0,v1,v2,v3,v4,v5,v6,v7,a8,a9,a10] t (0,0)):=by rw [←h8];simp [World.setCell,Array.getElem?_modify,q7]
 have q9:s9.heap[R]?=some (.cells #[v0,v1,v2,v3,v4,v5,v6,v7,v8,a9,a10] t (0,0)):=by rw [←h9];simp [World.setCell,Array.getElem?_modify,q8]
 have q10:s10.heap[R]?=some (.cells #[v0,v1,v2,v3,v4,v5,v6,v7,v8,v9,a10] t (0,0)):=by rw [←h10];simp [World.setCell,Array.getElem?_modify,q9]
 have q11:s11.heap[R]?=some (.cells #[v0,v1,v2,v3,v4,v5,v6,v7,v8,v9,v10] t (0,0)):=by rw [←h11];simp [World.setCell,Array.getElem?_modify,q10]
 refine ⟨s1,s2,s3,s4,s5,s6,s7,s8,s9,s10,s11,h1,h2,h3,h4,h5,h6,h7,h8,h9,h10,h11,⟨zC h 0,zC q1 1,zC q2 2,zC q3 3,zC q4 4,zC q5 5,zC q6 6,zC q7 7,zC q8 8,zC q9 9,zC q10 10⟩,⟨zF h 0,zF q1 1,zF q2 2,zF q3 3,zF q4 4,zF q5 5,zF q6 6,zF q7 7,zF q8 8,zF q9 9,zF q10 10⟩,q11,?_⟩
 rw [←h11,←h10,←h9,←h8,←h7,←h6,←h5,←h4,←h3,←h2,←h1]
 exact ((((((((((Oth.set W v0).trans (Oth.set _ v1)).trans (Oth.set _ v2)).trans (Oth.set _ v3)).trans (Oth.set _ v4)).trans (Oth.set _ v5)).trans (Oth.set _ v6)).trans (Oth.set _ v7)).trans (Oth.set _ v8)).trans (Oth.set _ v9)).trans (Oth.set _ v10)
theorem put9l {W:World} {R:Nat} {a0 a1 a2 a3 a4 a5 a6 a7 a8:Value} {t:TypeId} (h:W.heap[R]?=some (.cells #[a0,a1,a2,a3,a4,a5,a6,a7,a8] t (0,0))) (v0 v1 v2 v3:Value):∃s1 s2 s3 s4,W.setCell ⟨R,0,none⟩ v0=s1∧s1.setCell ⟨R,1,none⟩ v1=s2∧s2.setCell ⟨R,2,none⟩ v2=s3∧s3.setCell ⟨R,3,none⟩ v3=s4 ∧
  (W.cell? ⟨R,0,none⟩=some a0∧s1.cell? ⟨R,1,none⟩=some a1∧s2.cell? ⟨R,2,none⟩=some a2∧s3.cell? ⟨R,3,none⟩=some a3) ∧
  (W.frozen? ⟨R,0,none⟩=false∧s1.frozen? ⟨R,1,none⟩=false∧s2.frozen? ⟨R,2,none⟩=false∧s3.frozen? ⟨R,3,none⟩=false) ∧
  s4.heap[R]?=some (.cells #[v0,v1,v2,v3,a4,a5,a6,a7,a8] t (0,0))∧Oth R W s4:=by
 obtain ⟨s1,h1⟩:∃s1,W.setCell ⟨R,0,none⟩ v0=s1:=⟨_,rfl⟩
 obtain ⟨s2,h2⟩:∃s2,s1.setCell ⟨R,1,none⟩ v1=s2:=⟨_,rfl⟩
 obtain ⟨s3,h3⟩:∃s3,s2.setCell ⟨R,2,none⟩ v2=s3:=⟨_,rfl⟩
 obtain ⟨s4,h4⟩:∃s4,s3.setCell ⟨R,3,none⟩ v3=s4:=⟨_,rfl⟩
 have q1:s1.heap[R]?=some (.cells #[v0,a1,a2,a3,a4,a5,a6,a7,a8] t (0,0)):=by rw [←h1];simp [World.setCell,Array.getElem?_modify,h]
 have q2:s2.heap[R]?=some (.cells #[v0,v1,a2,a3,a4,a5,a6,a7,a8] t (0,0)):=by rw [←h2];simp [World.setCell,Array.getElem?_modify,q1]
 have q3:s3.heap[R]?=some (.cells #[v0,v1,v2,a3,a4,a5,a6,a7,a8] t (0,0)):=by rw [←h3];simp [World.setCell,Array.getElem?_modify,q2]
 have q4:s4.heap[R]?=some (.cells #[v0,v1,v2,v3,a4,a5,a6,a7,a8] t (0,0)):=by rw [←h4];simp [World.setCell,Array.getElem?_modify,q3]
 refine ⟨s1,s2,s3,s4,h1,h2,h3,h4,⟨zC h 0,zC q1 1,zC q2 2,zC q3 3⟩,⟨zF h 0,zF q1 1,zF q2 2,zF q3 3⟩,q4,?_⟩
 rw [←h4,←h3,←h2,←h1]
 exact (((Oth.set W v0).trans (Oth.set _ v1)).trans (Oth.set _ v2)).trans (Oth.set _ v3)
theorem put9r {W:World} {R:Nat} {a0 a1 a2 a3 a4 a5 a6 a7 a8:Value} {t:TypeId} (h:W.heap[R]?=some (.cells #[a0,a1,a2,a3,a4,a5,a6,a7,a8] t (0,0))) (v5 v6 v7 v8:Value):∃s1 s2 s3 s4,W.setCell ⟨R,5,none⟩ v5=s1∧s1.setCell ⟨R,6,none⟩ v6=s2∧s2.setCell ⟨R,7,none⟩ v7=s3∧s3.setCell ⟨R,8,none⟩ v8=s4 ∧
  (W.cell? ⟨R,5,none⟩=some a5∧s1.cell? ⟨R,6,none⟩=some a6∧s2.cell? ⟨R,7,none⟩=some a7∧s3.cell? ⟨R,8,none⟩=some a8) ∧
  (W.frozen? ⟨R,5,none⟩=false∧s1.frozen? ⟨R,6,none⟩=false∧s2.frozen? ⟨R,7,none⟩=false∧s3.frozen? ⟨R,8,none⟩=false) ∧
  s4.heap[R]?=some (.cells #[a0,a1,a2,a3,a4,v5,v6,v7,v8] t (0,0))∧Oth R W s4:=by
 obtain ⟨s1,h1⟩:∃s1,W.setCell ⟨R,5,none⟩ v5=s1:=⟨_,rfl⟩
 obtain ⟨s2,h2⟩:∃s2,s1.setCell ⟨R,6,none⟩ v6=s2:=⟨_,rfl⟩
 obtain ⟨s3,h3⟩:∃s3,s2.setCell ⟨R,7,none⟩ v7=s3:=⟨_,rfl⟩
 obtain ⟨s4,h4⟩:∃s4,s3.setCell ⟨R,8,none⟩ v8=s4:=⟨_,rfl⟩
 have q1:s1.heap[R]?=some (.cells #[a0,a1,a2,a3,a4,v5,a6,a7,a8] t (0,0)):=by rw [←h1];simp [World.setCell,Array.getElem?_modify,h]
 have q2:s2.heap[R]?=some (.cells #[a0,a1,a2,a3,a4,v5,v6,a7,a8] t (0,0)):=by rw [←h2];simp [World.setCell,Array.getElem?_modify,q1]
 have q3:s3.heap[R]?=some (.cells #[a0,a1,a2,a3,a4,v5,v6,v7,a8] t (0,0)):=by rw [←h3];simp [World.setCell,Array.getElem?_modify,q2]
 have q4:s4.heap[R]?=some (.cells #[a0,a1,a2,a3,a4,v5,v6,v7,v8] t (0,0)):=by rw [←h4];simp [World.setCell,Array.getElem?_modify,q3]
 refine ⟨s1,s2,s3,s4,h1,h2,h3,h4,⟨zC h 5,zC q1 6,zC q2 7,zC q3 8⟩,⟨zF h 5,zF q1 6,zF q2 7,zF q3 8⟩,q4,?_⟩
 rw [←h4,←h3,←h2,←h1]
 exact (((Oth.set W v5).trans (Oth.set _ v6)).trans (Oth.set _ v7)).trans (Oth.set _ v8)
theorem put11o {W:World} {R:Nat} {a0 a1 a2 a3 a4 a5 a6 a7 a8 a9 a10:Value} {t:TypeId} (h:W.heap[R]?=some (.cells #[a0,a1,a2,a3,a4,a5,a6,a7,a8,a9,a10] t (0,0))) (v2 v3 v4:Value):∃s1 s2 s3,W.setCell ⟨R,2,none⟩ v2=s1∧s1.setCell ⟨R,3,none⟩ v3=s2∧s2.setCell ⟨R,4,none⟩ v4=s3 ∧
  (W.cell? ⟨R,2,none⟩=some a2∧s1.cell? ⟨R,3,none⟩=some a3∧s2.cell? ⟨R,4,none⟩=some a4) ∧
  (W.frozen? ⟨R,2,none⟩=false∧s1.frozen? ⟨R,3,none⟩=false∧s2.frozen? ⟨R,4,none⟩=false) ∧
  s3.heap[R]?=some (.cells #[a0,a1,v2,v3,v4,a5,a6,a7,a8,a9,a10] t (0,0))∧Oth R W s3:=by
 obtain ⟨s1,h1⟩:∃s1,W.setCell ⟨R,2,none⟩ v2=s1:=⟨_,rfl⟩
 obtain ⟨s2,h2⟩:∃s2,s1.setCell ⟨R,3,none⟩ v3=s2:=⟨_,rfl⟩
 obtain ⟨s3,h3⟩:∃s3,s2.setCell ⟨R,4,none⟩ v4=s3:=⟨_,rfl⟩
 have q1:s1.heap[R]?=some (.cells #[a0,a1,v2,a3,a4,a5,a6,a7,a8,a9,a10] t (0,0)):=by rw [←h1];simp [World.setCell,Array.getElem?_modify,h]
 have q2:s2.heap[R]?=some (.cells #[a0,a1,v2,v3,a4,a5,a6,a7,a8,a9,a10] t (0,0)):=by rw [←h2];simp [World.setCell,Array.getElem?_modify,q1]
 have q3:s3.heap[R]?=some (.cells #[a0,a1,v2,v3,v4,a5,a6,a7,a8,a9,a10] t (0,0)):=by rw [←h3];simp [World.setCell,Array.getElem?_modify,q2]
 refine ⟨s1,s2,s3,h1,h2,h3,⟨zC h 2,zC q1 3,zC q2 4⟩,⟨zF h 2,zF q1 3,zF q2 4⟩,q3,?_⟩
 rw [←h3,←h2,←h1]
 exact ((Oth.set W v2).trans (Oth.set _ v3)).trans (Oth.set _ v4)
theorem put11p {W:World} {R:Nat} {a0 a1 a2 a3 a4 a5 a6 a7 a8 a9 a10:Value} {t:TypeId} (h:W.heap[R]?=some (.cells #[a0,a1,a2,a3,a4,a5,a6,a7,a8,a9,a10] t (0,0))) (v5 v6 v7:Value):∃s1 s2 s3,W.setCell ⟨R,5,none⟩ v5=s1∧s1.setCell ⟨R,6,none⟩ v6=s2∧s2.setCell ⟨R,7,none⟩ v7=s3 ∧
  (W.cell? ⟨R,5,none⟩=some a5∧s1.cell? ⟨R,6,none⟩=some a6∧s2.cell? ⟨R,7,none⟩=some a7) ∧
  (W.frozen? ⟨R,5,none⟩=false∧s1.frozen? ⟨R,6,none⟩=false∧s2.frozen? ⟨R,7,none⟩=false) ∧
  s3.heap[R]?=some (.cells #[a0,a1,a2,a3,a4,v5,v6,v7,a8,a9,a10] t (0,0))∧Oth R W s3:=by
 obtain ⟨s1,h1⟩:∃s1,W.setCell ⟨R,5,none⟩ v5=s1:=⟨_,rfl⟩
 obtain ⟨s2,h2⟩:∃s2,s1.setCell ⟨R,6,none⟩ v6=s2:=⟨_,rfl⟩
 obtain ⟨s3,h3⟩:∃s3,s2.setCell ⟨R,7,none⟩ v7=s3:=⟨_,rfl⟩
 have q1:s1.heap[R]?=some (.cells #[a0,a1,a2,a3,a4,v5,a6,a7,a8,a9,a10] t (0,0)):=by rw [←h1];simp [World.setCell,Array.getElem?_modify,h]
 have q2:s2.heap[R]?=some (.cells #[a0,a1,a2,a3,a4,v5,v6,a7,a8,a9,a10] t (0,0)):=by rw [←h2];simp [World.setCell,Array.getElem?_modify,q1]
 have q3:s3.heap[R]?=some (.cells #[a0,a1,a2,a3,a4,v5,v6,v7,a8,a9,a10] t (0,0)):=by rw [←h3];simp [World.setCell,Array.getElem?_modify,q2]
 refine ⟨s1,s2,s3,h1,h2,h3,⟨zC h 5,zC q1 6,zC q2 7⟩,⟨zF h 5,zF q1 6,zF q2 7⟩,q3,?_⟩
 rw [←h3,←h2,←h1]
 exact ((Oth.set W v5).trans (Oth.set _ v6)).trans (Oth.set _ v7)
structure Mid (w3 wr:World) (vL0 vR0:Value) (W:World) (vL:Value) (nL:Nat) (xL:List Value) (vR:Value) (nR:Nat) (xR:List Value):Prop where
 L:W.ownsRow w3.heap.size 51 4 vL nL xL
 R:W.ownsRow w3.heap.size 51 4 vR nR xR
 dj:∀b,vL.ownBlock=some b→vR.ownBlock≠some b
 keep:∀b,b<wr.heap.size→vL0.ownBlock≠some b→vR0.ownBlock≠some b→W.heap[b]?=wr.heap[b]?
 fL:vL.ownBlock=vL0.ownBlock∨∃g,vL.ownBlock=some g∧wr.heap.size≤g
 fR:vR.ownBlock=vR0.ownBlock∨∃g,vR.ownBlock=some g∧wr.heap.size≤g
 size:wr.heap.size≤W.heap.size
 os:W.os=wr.os
 tape:W.tape=wr.tape
 output:W.output=wr.output
theorem Mid.start {w3 wr:World} {vL vR:Value} {nL nR:Nat} {xL xR:List Value} (hL:wr.ownsRow w3.heap.size 51 4 vL nL xL) (hR:wr.ownsRow w3.heap.size 51 4 vR nR xR) (hd:∀b,vL.ownBlock=some b→vR.ownBlock≠some b):Mid w3 wr vL vR wr.drew vL nL xL vR nR xR :=
 ⟨hL.drew,hR.drew,hd,fun _ _ _ _=>rfl,.inl rfl,.inl rfl,zN _,rfl,rfl,rfl⟩
theorem Mid.alloc {w3 wr W:World} {vL0 vR0 vL vR:Value} {nL nR:Nat} {xL xR:List Value} (h:Mid w3 wr vL0 vR0 W vL nL xL vR nR xR) (o:Obj):Mid w3 wr vL0 vR0 (W.alloc o) vL nL xL vR nR xR :=
 ⟨h.L.alloc _,h.R.alloc _,h.dj,fun b hb h1 h2=>(zA _ _ _ (Nat.lt_of_lt_of_le hb h.size)).trans (h.keep b hb h1 h2),h.fL,h.fR,Nat.le_trans h.size (by simp),h.os,h.tape,h.output⟩
theorem Mid.appL {w3 wr W w':World} {vL0 vR0 vL vR v':Value} {nL nR nL':Nat} {xL xR xL':List Value} (h:Mid w3 wr vL0 vR0 W vL nL xL vR nR xR) (hown:w'.ownsRow w3.heap.size 51 4 v' nL' xL') (hg:W.grownBy w' vL.ownBlock) (hloc:v'.ownBlock=vL.ownBlock∨v'.ownBlock=some W.heap.size):Mid w3 wr vL0 vR0 w' v' nL' xL' vR nR xR:=by
 have hs:=hg.size
 have hsz:=h.size
 refine ⟨hown,ownsRow_keep h.R (fun g hg2=>hg.block g (h.R.lt g hg2).2 (fun e=>h.dj g e.symm hg2)),fun b hb hb2=>?_,fun b hb h1 h2=>?_,?_,h.fR,by omega,hg.os.trans h.os,hg.tape.trans h.tape,hg.output.trans h.output⟩
 ·rcases hloc with e | e
  ·exact h.dj b (e ▸ hb) hb2
  rw [e] at hb;have:=zO hb;have:=(h.R.lt b hb2).2;omega
 ·refine (hg.block b (by omega) (fun e=>?_)).trans (h.keep b hb h1 h2)
  rcases h.fL with e2 | ⟨g,e2,hge⟩
  ·exact h1 (e2 ▸ e.symm)
  rw [e2] at e;have:=zO e;omega
 rcases hloc with e | e
 ·rw [e];exact h.fL
 exact .inr ⟨_,e,hsz⟩
theorem Mid.appR {w3 wr W w':World} {vL0 vR0 vL vR v':Value} {nL nR nR':Nat} {xL xR xR':List Value} (h:Mid w3 wr vL0 vR0 W vL nL xL vR nR xR) (hown:w'.ownsRow w3.heap.size 51 4 v' nR' xR') (hg:W.grownBy w' vR.ownBlock) (hloc:v'.ownBlock=vR.ownBlock∨v'.ownBlock=some W.heap.size):Mid w3 wr vL0 vR0 w' vL nL xL v' nR' xR':=by
 have hs:=hg.size
 have hsz:=h.size
 refine ⟨ownsRow_keep h.L (fun g hg2=>hg.block g (h.L.lt g hg2).2 (fun e=>h.dj g hg2 e.symm)),hown,fun b hb hb2=>?_,fun b hb h1 h2=>?_,h.fL,?_,by omega,hg.os.trans h.os,hg.tape.trans h.tape,hg.output.trans h.output⟩
 ·rcases hloc with e | e
  ·exact h.dj b hb (e ▸ hb2)
  rw [e] at hb2;have:=zO hb2;have:=(h.L.lt b hb).2;omega
 ·refine (hg.block b (by omega) (fun e=>?_)).trans (h.keep b hb h1 h2)
  rcases h.fR with e2 | ⟨g,e2,hge⟩
  ·exact h2 (e2 ▸ e.symm)
  rw [e2] at e;have:=zO e;omega
 rcases hloc with e | e
 ·rw [e];exact h.fR
 exact .inr ⟨_,e,hsz⟩
def Ext (W:World) (vL vR:Value) (g:Nat) (o:Obj):Prop:=W.heap[g]?=some o∧vL.ownBlock≠some g∧vR.ownBlock≠some g
theorem Ext.new {w3 wr W:World} {vL0 vR0 vL vR:Value} {nL nR:Nat} {xL xR:List Value} (h:Mid w3 wr vL0 vR0 W vL nL xL vR nR xR) (cur:Array Value) (t:TypeId):Ext (W.alloc (.cells cur t)) vL vR W.heap.size (.cells cur t (0,0)) :=
 ⟨zW _ _,fun e=>by have:=(h.L.lt _ e).2;omega,fun e=>by have:=(h.R.lt _ e).2;omega⟩
theorem Ext.alloc {W:World} {vL vR:Value} {g:Nat} {o:Obj} (h:Ext W vL vR g o) (o':Obj):Ext (W.alloc o') vL vR g o:=⟨(zA _ _ _ (zL h.1)).trans h.1,h.2⟩
theorem Ext.appL {W w':World} {vL vR v':Value} {g:Nat} {o:Obj} (h:Ext W vL vR g o) (hg:W.grownBy w' vL.ownBlock) (hloc:v'.ownBlock=vL.ownBlock∨v'.ownBlock=some W.heap.size):Ext w' v' vR g o:=by
 have hl:=zL h.1
 refine ⟨(hg.block g hl (fun e=>h.2.1 e.symm)).trans h.1,fun e=>?_,h.2.2⟩
 rcases hloc with e2 | e2
 ·exact h.2.1 (e2 ▸ e)
 rw [e2] at e;have:=zO e;omega
theorem Ext.cells {W:World} {vL vR:Value} {g:Nat} {xs:List Value} {t:TypeId} (h:Ext W vL vR g (.cells xs.toArray t (0,0))) (j:Nat) (u:Value) (hj:xs[j]?=some u):W.cell? ((⟨g,0,none⟩:Addr).add j)=some u:=by
 rw [ocell_add,zC h.1]
 simpa using hj
structure As1 (w w3:World) (T Qb:Nat) (rel:Int) (A0:Option Addr) (nk c0:Nat) (ks:List Int) (k:Nat) (ts us:List Lfc.Raw) (AL:Option Addr) (cl:Nat) (AR:Option Addr) (cr:Nat) (W:World):Prop where
 blk:W.heap[Qb]?=some (.cells #[.slice none 0 0,.int .i64 rel,.int .i64 0,.int .i64 0,.slice none 0 0,.int .i64 0,.int .i64 0,.slice none 0 0,.slice AL k cl,.slice AR k cr,.slice A0 nk c0] 29 (0,0))
 lt:ts.length=k
 lu:us.length=k
 rows:∃xL xR,W.ownsRow w3.heap.size 51 4 (.slice AL k cl) k xL∧W.ownsRow w3.heap.size 51 4 (.slice AR k cr) k xR∧RowP (fun b=>w3.heap.size≤b∧(Value.slice AL k cl).ownBlock≠some b∧(Value.slice AR k cr).ownBlock≠some b) W ts xL∧RowP (fun b=>w3.heap.size≤b∧(Value.slice AL k cl).ownBlock≠some b∧(Value.slice AR k cr).ownBlock≠some b) W us xR
 dj:∀b,(Value.slice AL k cl).ownBlock=some b→(Value.slice AR k cr).ownBlock≠some b
 ks:IntsP (fun b=>w.heap.size<b∧b<w3.heap.size∧b≠Qb) W A0 ks
 tape:TapeI T W
 oth:Oth T w W
 size:w3.heap.size≤W.heap.size
 zt:∀t∈ts,t.size≤40
 zu:∀t∈us,Lfc.good t
 res:W.heap[w.heap.size]?=some (.cells #[.slice none 0 0,.int .i64 0,.int .i64 0,.int .i64 0,.slice none 0 0,.int .i64 0,.int .i64 0,.slice none 0 0,.slice none 0 0,.slice none 0 0,.slice none 0 0] 29 (0,0))
theorem As1.othT {w w3 W W':World} {T Qb nk c0 k cl cr:Nat} {rel:Int} {A0 AL AR:Option Addr} {ks:List Int} {ts us:List Lfc.Raw} (h:As1 w w3 T Qb rel A0 nk c0 ks k ts us AL cl AR cr W) (hT:T<w.heap.size) (hQ:w.heap.size<Qb) (hQ3:Qb<w3.heap.size) (ho:Oth T W W') (ht:TapeI T W'):As1 w w3 T Qb rel A0 nk c0 ks k ts us AL cl AR cr W':=by
 obtain ⟨xL,xR,h1,h2,h3,h4⟩:=h.rows
 have hk:∀b,w3.heap.size≤b→b<W.heap.size→W'.heap[b]?=W.heap[b]?:=fun b hb hlt=>ho.block b hlt (fun e=>by have:=zO e;omega)
 exact ⟨ho.heap h.blk (by omega),h.lt,h.lu,⟨xL,xR,ownsRow_keep h1 (fun g hg=>hk g (h1.lt g hg).1 (h1.lt g hg).2),ownsRow_keep h2 (fun g hg=>hk g (h2.lt g hg).1 (h2.lt g hg).2),h3.keep (fun b hb hlt=>hk b hb.1 hlt) ho.size (fun _ _ h=>h),h4.keep (fun b hb hlt=>hk b hb.1 hlt) ho.size (fun _ _ h=>h)⟩,h.dj,
  h.ks.keep (fun b hb hlt=>ho.block b hlt (fun e=>by have:=zO e;omega)) ho.size (fun _ _ h=>h),ht,h.oth.trans ho,Nat.le_trans h.size ho.size,h.zt,h.zu,ho.heap h.res (by omega)⟩
theorem As1.below {w w3 W W':World} {T Qb nk c0 k cl cr:Nat} {rel:Int} {A0 AL AR:Option Addr} {ks:List Int} {ts us:List Lfc.Raw} (h:As1 w w3 T Qb rel A0 nk c0 ks k ts us AL cl AR cr W) (hT:T<w.heap.size) (hQ:w.heap.size<Qb) (hQ3:Qb<w3.heap.size) (hb:Below W.heap.size W W'):As1 w w3 T Qb rel A0 nk c0 ks k ts us AL cl AR cr W' :=
 h.othT hT hQ hQ3 (Oth.of_below hb) (h.tape.below hb)
theorem As1.push {w w3 wr W W':World} {T Qb nk c0 k cl cr:Nat} {rel:Int} {A0 AL AR AL' AR':Option Addr} {cl' cr':Nat} {ks:List Int} {ts us:List Lfc.Raw} {x u:Lfc.Raw} {x0 x1 x2 x3 u0 u1 u2 u3:Value} {xL xR:List Value} (h:As1 w w3 T Qb rel A0 nk c0 ks k ts us AL cl AR cr wr) (hT:T<w.heap.size) (hQ:w.heap.size<Qb) (hQ3:Qb<w3.heap.size)
  (hrL:RowP (fun b=>w3.heap.size≤b∧(Value.slice AL k cl).ownBlock≠some b∧(Value.slice AR k cr).ownBlock≠some b) wr ts xL) (hrR:RowP (fun b=>w3.heap.size≤b∧(Value.slice AL k cl).ownBlock≠some b∧(Value.slice AR k cr).ownBlock≠some b) wr us xR)
  (hx:TreeP (fun b=>w3.heap.size≤b∧(Value.slice AL k cl).ownBlock≠some b∧(Value.slice AR k cr).ownBlock≠some b) wr x x0 x1 x2 x3) (hu:TreeP (fun b=>w3.heap.size≤b∧(Value.slice AL k cl).ownBlock≠some b∧(Value.slice AR k cr).ownBlock≠some b) wr u u0 u1 u2 u3) (hzx:x.size≤40) (hzu:Lfc.good u)
  (hM:Mid w3 wr (.slice AL k cl) (.slice AR k cr) W (.slice AL' (k+1) cl') (k+1) (xL++[x0,x1,x2,x3]) (.slice AR' (k+1) cr') (k+1) (xR++[u0,u1,u2,u3])) (ho:Oth Qb W W') (hblk:W'.heap[Qb]?=some (.cells #[.slice none 0 0,.int .i64 rel,.int .i64 0,.int .i64 0,.slice none 0 0,.int .i64 0,.int .i64 0,.slice none 0 0,.slice AL' (k+1) cl',.slice AR' (k+1) cr',.slice A0 nk c0] 29 (0,0))) :
  As1 w w3 T Qb rel A0 nk c0 ks (k+1) (ts++[x]) (us++[u]) AL' cl' AR' cr' W':=by
 have hsr:=h.size
 have hsM:=hM.size
 have hso:=ho.size
 have hw:=h.oth.size
 have hnb:∀b,b<w3.heap.size→(Value.slice AL k cl).ownBlock≠some b∧(Value.slice AR k cr).ownBlock≠some b:=fun b hb=>by
  obtain ⟨xL,xR,h1,h2,_⟩:=h.rows
  exact ⟨fun e=>by have:=(h1.lt b e).1;omega,fun e=>by have:=(h2.lt b e).1;omega⟩
 have hold:∀b,b<w3.heap.size→b≠Qb→W'.heap[b]?=wr.heap[b]?:=fun b hb hne=>(ho.block b (by omega) (fun e=>hne (zO e))).trans (hM.keep b (by omega) (hnb b hb).1 (hnb b hb).2)
 have hq:∀b,b<wr.heap.size→(w3.heap.size≤b∧(Value.slice AL k cl).ownBlock≠some b∧(Value.slice AR k cr).ownBlock≠some b)→(w3.heap.size≤b∧(Value.slice AL' (k+1) cl').ownBlock≠some b∧(Value.slice AR' (k+1) cr').ownBlock≠some b):=fun b hlt hb=>⟨hb.1,fun e=>by
  rcases hM.fL with e2 | ⟨g,e2,hge⟩
  ·exact hb.2.1 (e2 ▸ e)
  ·rw [e2] at e;have:=zO e;omega,fun e=>by
  rcases hM.fR with e2 | ⟨g,e2,hge⟩
  ·exact hb.2.2 (e2 ▸ e)
  rw [e2] at e;have:=zO e;omega⟩
 have hkeep:∀b,(w3.heap.size≤b∧(Value.slice AL k cl).ownBlock≠some b∧(Value.slice AR k cr).ownBlock≠some b)→b<wr.heap.size→W'.heap[b]?=wr.heap[b]?:=fun b hb hlt=>(ho.block b (by omega) (fun e=>by have:=zO e;omega)).trans (hM.keep b hlt hb.2.1 hb.2.2)
 have hrow:∀ {v:Value} {n:Nat} {xs:List Value},W.ownsRow w3.heap.size 51 4 v n xs→W'.ownsRow w3.heap.size 51 4 v n xs:=fun hr=>ownsRow_keep hr (fun g hg=>ho.block g (hr.lt g hg).2 (fun e=>by have:=zO e;have:=(hr.lt g hg).1;omega))
 refine ⟨hblk,by rw [List.length_append,h.lt];rfl,by rw [List.length_append,h.lu];rfl,⟨_,_,hrow hM.L,hrow hM.R,RowP.append (RowP.one (TreeP.keep hkeep (by omega) hq _ _ _ _ _ hx)) (hrL.keep hkeep (by omega) hq),RowP.append (RowP.one (TreeP.keep hkeep (by omega) hq _ _ _ _ _ hu)) (hrR.keep hkeep (by omega) hq)⟩,hM.dj,
  h.ks.keep (fun b hb hlt=>hold b hb.2.1 hb.2.2) (by omega) (fun _ _ h=>h),h.tape.like (fun b hb=>hold b (by omega) (by omega)),?_,by omega,fun t ht=>?_,fun t ht=>?_,(hold _ (by omega) (by omega)).trans h.res⟩
 ·exact ⟨ho.os.trans (hM.os.trans h.oth.os),ho.tape.trans (hM.tape.trans h.oth.tape),ho.output.trans (hM.output.trans h.oth.output),by omega,fun b hb hn=>(hold b (by omega) (by omega)).trans (h.oth.block b hb hn)⟩
 ·rcases List.mem_append.1 ht with h1 | h1
  ·exact h.zt t h1
  rw [List.mem_singleton] at h1;subst h1;exact hzx
 rcases List.mem_append.1 ht with h1 | h1
 ·exact h.zu t h1
 rw [List.mem_singleton] at h1;subst h1;exact hzu
end Go.Proofs.YtadjpadieljjlaaGreat
