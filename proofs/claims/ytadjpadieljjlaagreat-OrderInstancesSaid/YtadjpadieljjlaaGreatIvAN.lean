/- Parts of the proof that no input makes the law false: OcSim, OcAll, OcBoth. -/
import Derived.Test.YtadjpadieljjlaaGreatIvAM
set_option linter.unusedVariables false
set_option linter.unusedSimpArgs false
set_option maxRecDepth 100000
set_option maxHeartbeats 32000000
namespace Go.Proofs.YtadjpadieljjlaaGreat
open Go.RowKit Go.Maps
theorem oth_put {Mb g:Nat} {wr wa s4:World} (h:Oth Mb wr wa) (ho:Oth g wa s4) (hg:wr.heap.size≤g):Oth Mb wr s4 :=
 ⟨ho.os.trans h.os,ho.tape.trans h.tape,ho.output.trans h.output,Nat.le_trans h.size ho.size,fun b hb hn=>(ho.block b (Nat.lt_of_lt_of_le hb h.size) (fun e=>by have:=zO e;omega)).trans (h.block b hb hn)⟩
theorem PrvA.drew {ks:List Int} {fs:List Lfc.Fact} {Mb:Nat} {q:Nat→Prop} {w w':World} {N:Nat} {r:Prop} {e:Ending} (h:PrvA ks fs Mb q w N r e w'):PrvA ks fs Mb q w N r e w'.drew:=by
 obtain ⟨⟨pf,ix,A,A1,A2,n,n1,n2,c,c1,c2,b,he,hp,hz,hb⟩,hC,ho⟩:=h
 have hd:Below w'.heap.size w' w'.drew:=(zB _ _).drew
 exact ⟨⟨pf,ix,A,A1,A2,n,n1,n2,c,c1,c2,b,he,PfP.keep (fun b _ hlt=>hd.block b hlt) hd.size (fun _ _ h=>h) _ _ _ _ _ hp,hz,hb⟩,hC.below hd,ho.trans (Oth.of_below hd)⟩
theorem oSim3_any (q:Nat→Prop) (L W B:Nat→Nat→Prop) (Bx Mb:Nat) (ks:List Int) (fs:List Lfc.Fact) (ps:List Lfc.Ods) (A:Option Addr) (c:Nat) (w:World) (r:Prop) (hE:Cans ks fs Mb Bx L W B w A ps) (hn:ps.length≤1000) (hC:Cache ks fs Mb q w) (hq:∀b,w.heap.size≤b→q b) (hqM:∀b,q b→b≠Mb) (hr0:r↔Lfc.Ods.eqs W B ps) :
  Calls Tryz.prog 155 #[.agg #[.slice A ps.length c],.pointer (some ⟨Bx,0,none⟩),.int .i64 3] w (PrvA ks fs Mb q w (Lfc.Ods.sizes ps+1) r):=by
 obtain ⟨w1,hw1⟩:∃w1,w.alloc (.cells #[.slice A ps.length c] 121)=w1:=⟨_,rfl⟩
 obtain ⟨w2,hw2⟩:∃w2,w1.alloc (.cells #[.int .i64 0,.slice none 0 0,.slice none 0 0,.slice none 0 0] 39)=w2:=⟨_,rfl⟩
 have b1:=zG hw1
 have b2:=zG hw2
 have q1:=zQ hw1
 have q2:=zQ hw2
 have l1:=zL q1
 have l2:=zL q2
 have b02:Below w.heap.size w w2:=b1.trans (b2.mono (by omega))
 have hMb:=hC.lt
 have hgM:w1.heap.size≠Mb:=by omega
 have hgl:w.heap.size≤w1.heap.size:=by omega
 have Q1:=zH ((b2.block _ l1).trans q1)
 have Q2:=zH q2
 have y0:w2.cell? ⟨w.heap.size,0,none⟩=some (.slice A ps.length c):=zC Q1.out 0
 have C2:Hid (Cache ks fs Mb (fun b=>q b∧b≠w1.heap.size) w2):=zH ((hC.weak (q':=fun b=>q b∧b≠w1.heap.size) (fun b hb hq=>⟨hq,by omega⟩)).below b02)
 have B02:=zH b02
 have HE:=zH hE
 have HQ0:=zH hq
 have HQM:=zH hqM
 have s02:w.heap.size≤w2.heap.size:=by omega
 have HR0:=zH hr0
 obtain ⟨w3,hw3⟩:∃w3,w2.alloc (.cells #[.int .i64 (ps.length:Int),.slice none 0 0,.slice none 0 0,.slice none 0 0] 39)=w3:=⟨_,rfl⟩
 obtain ⟨b3,l3,hok,hI0⟩:=lp_init (ps:=ps) (ix:=(ps.length:Int)) hw3 l2 (by omega) hgM HQM.out HQ0.out s02 C2.out
 have HOK:=zH hok
 have I0:=zH hI0
 have O3:Hid (Oth Mb w w3):=zH ((Oth.of_below B02.out).trans (Oth.of_below b3))
 have G1:Hid (w3.heap[w.heap.size]?=some (.cells #[.slice A ps.length c] 121 (0,0))):=zH ((b3.block _ (by omega)).trans Q1.out)
 have G2:Hid (w3.heap[w1.heap.size]?=some (.cells #[.int .i64 0,.slice none 0 0,.slice none 0 0,.slice none 0 0] 39 (0,0))):=zH ((b3.block _ (by omega)).trans Q2.out)
 have TOT:Hid (∀os n ix A' c' W,PSt ks fs q w2.heap.size w1.heap.size Mb w3 os n ix A' c' W→Oth Mb w W∧W.cell? ⟨w.heap.size,0,none⟩=some (.slice A ps.length c)∧w3.heap.size≤W.heap.size):=zH (fun os n ix A' c' W h=>⟨h.othw O3.out s02,(zC (lpi_stay h G1.out (by omega) (by omega)) 0).trans rfl,h.frame.size⟩)
 have hgq:w.heap.size≤w2.heap.size:=s02
 have hne0:w.heap.size≠w2.heap.size:=by omega
 clear b3 hok hI0
 clear b1 b2 q1 q2 b02 hE hC hq hqM hr0
 have y0':w3.cell? ⟨w.heap.size,0,none⟩=some (.slice A ps.length c):=(zC G1.out 0).trans rfl
 have HW3:=zH hw3
 clear hw3
 go_enter Tryz.func155,Tryz.ntmps155
 go_upto_region 5 with fail
 rw [HW3.out]
 go_wp2_with fail
 go_loopw [24] (fun i wr=>∃k:Nat,k≤ps.length∧i=.int .i64 (k:Int)∧Hid (LpI ks fs q w2.heap.size w1.heap.size Mb w3 ps k (ps.length:Int) wr∧(r↔Lfc.Ods.eqs W B (ps.drop k)))) (fun i _=>ps.length-(intOf i).toNat)
 case atStart=>exact ⟨0,by omega,rfl,zH ⟨I0.out,by rw [List.drop_zero];exact HR0.out⟩⟩
 clear I0 HW3 y0 y0' hw1 hw2
 obtain ⟨k,hk,rfl,HI⟩:=hrel
 by_cases hlt:k<ps.length
 ·obtain ⟨⟨os,A1,c1,hS,hsz⟩,hr⟩:=HI.out
  have HRR:=zH hr
  clear hr
  obtain ⟨b,o,v,rfl,hb0,hbM,hcl,T,a,f,g,rfl,hme,hmw,⟨hcf,hcg⟩,hcan⟩:=HE.out k hlt
  have HS:=zH hS
  have HSZ:=zH hsz
  have szr:=(TOT.out _ _ _ _ _ _ hS).2.2
  have d0:=((TOT.out _ _ _ _ _ _ hS).1.cell (p:=⟨b,o+k,none⟩) hb0 hbM).trans hcl
  have hi0:(0:Int)≤(k:Int):=Int.natCast_nonneg _
  have hi1:(k:Int)<(ps.length:Int):=by omega
  have HQN:=zH (hS.qnew HOK.out)
  have OWr:=zH (TOT.out _ _ _ _ _ _ hS).1
  have hMw3:Mb<w3.heap.size:=HOK.out.lt.2.2
  obtain ⟨wp,hwp⟩:∃wp,wr.alloc (.cells #[.int .i64 0,.slice none 0 0,.slice none 0 0,.slice none 0 0] 39)=wp:=⟨_,rfl⟩
  have bp:=zG hwp
  have qp:=zQ hwp
  have wp_ge:wr.heap.size<wp.heap.size:=zL qp
  have OP:Hid (Oth Mb wr wp):=zH (Oth.of_below bp)
  have CP:Hid (Cache ks fs Mb (fun b=>PQ q w2.heap.size w1.heap.size (.slice A1 k c1) b∧b≠wr.heap.size) wp):=zH ((hS.cache.weak (q':=(fun b=>PQ q w2.heap.size w1.heap.size (.slice A1 k c1) b∧b≠wr.heap.size)) (fun b hb hq=>⟨hq,by omega⟩)).below bp)
  have QP:=zH qp
  have hSp:=hS.below HOK.out bp
  have i0':wp.cell? ⟨w2.heap.size,0,none⟩=some (.int .i64 (ps.length:Int)):=zC hSp.blk 0
  have yb:wp.cell? ⟨w.heap.size,0,none⟩=some (.slice (some ⟨b,o,none⟩) ps.length c):=(TOT.out _ _ _ _ _ _ hSp).2.1
  clear hcl hb0 hbM bp qp hSp hS hsz HI
  have CE:=zH ((hcan wp (fun b=>PQ q w2.heap.size w1.heap.size (.slice A1 k c1) b∧b≠wr.heap.size) (OWr.out.trans OP.out) CP.out (fun b hb=>⟨HQN.out b (by omega),by omega⟩) (fun b hb=>HS.out.qM HOK.out b hb.1)).1 3 _ (.inr (.inr ⟨rfl,Iff.rfl⟩)))
  clear hcan
  go_wp2_with fail
  refine CE.out.mono ?_
  rintro e wa ⟨⟨pf,ix1,A5,A6,A7,n5,n6,n7,c5,c6,c7,bz,rfl,hpf,hpz,hb⟩,hCa,hoa⟩
  have sza:=hoa.size
  obtain ⟨p11,p12,p13,v1,g1,g2,g3,g4,⟨x0,x1,x2,x3⟩,⟨f0,f1,f2,f3⟩,hq4,ho4⟩:=put4 ((hoa.block wr.heap.size wp_ge (fun e=>by have:=zO e;omega)).trans QP.out) (.int .i64 ix1) (.slice A5 n5 c5) (.slice A6 n6 c6) (.slice A7 n7 c7)
  have v1_ge:wr.heap.size<v1.heap.size:=by have:=wp_ge;have:=ho4.size;omega
  have HC1:Hid (Cache ks fs Mb (fun b=>PQ q w2.heap.size w1.heap.size (.slice A1 k c1) b∧b≠wr.heap.size) v1):=zH (hCa.keep (row:=some wr.heap.size) ho4 (fun e=>by have:=zO e;omega) (fun b hb _ e=>hb.2 (zO e)) (fun _ _ h=>h))
  have OW1:Hid (Oth Mb wr v1):=zH (oth_put ((OP.out).trans hoa) ho4 (zN _))
  have HS1:=zH (HS.out.oth HOK.out OW1.out (HC1.out.weak (fun b _ hb=>hb.1)))
  have HPF:=zH (PfP.keep (q':=PQ q w2.heap.size w1.heap.size (.slice A1 k c1)) (fun b hb hlt=>ho4.block b hlt (fun e=>hb.2 (zO e))) ho4.size (fun b _ hb=>hb.1) _ _ _ _ _ hpf)
  have HPZ:=zH hpz
  have HB:=zH hb
  have QG1:=zH hq4
  clear hpf hpz hb hCa hoa hq4 ho4 CE sza
  go_upto_region 16 with fail
  clear x0 x1 x2 x3 f0 f1 f2 f3 g1 g2 g3 g4
  clear i0' yb d0 hwp
  cases bz with
  | false =>
   have HNR:Hid (¬r):=zH (fun h=>by have:=HB.out.2 ((drop_eqs hlt).1 (HRR.out.1 h)).1;cases this)
   obtain ⟨s1,s2,s3,s4,h1,h2,h3,h4,⟨c0',c1',c2',c3'⟩,⟨t0,t1,t2,t3⟩,HQ,HZ⟩:=lpi_none HS1.out HOK.out O3.out G2.out hgl hgq HNR.out
   go_wp2_with fail
   refine bodyPost_ret (results_proof2 rfl _ _ _ _ _ _ _ rfl HQ.out) rfl ?_
   exact HZ.out
  | true =>
   obtain ⟨s3,e3,A',c',s4,s5,hrun,⟨d1,d2⟩,e5,hP5⟩:=HS1.out.push HOK.out HPF.out (by omega)
   have HRUN:=zH hrun
   have HN:=zH (lpi_next hlt HSZ.out HPZ.out hP5)
   have HG:Hid (r↔Lfc.Ods.eqs W B (ps.drop (k+1))):=zH (HRR.out.trans ((drop_eqs hlt).trans ⟨fun h=>h.2,fun h=>⟨HB.out.1 rfl,h⟩⟩))
   have z1:v1.cell? ⟨w2.heap.size,1,none⟩=some (.slice A1 k c1):=zC HS1.out.blk 1
   obtain ⟨y0,y1,y2,y3⟩:=cells4v QG1.out
   clear hrun hP5 HPF HPZ
   go_wp2_with (at_builtin;refine wpList_append_run rfl _ _ 36 rfl _ _ _ _ rfl rfl HRUN.out ?_)
   go_roundw
   case rel=>exact ⟨k+1,by omega,by go_num,zH (⟨HN.out,HG.out⟩)⟩
   case measure=>simp [intOf];omega
 obtain rfl:k=ps.length:=by omega
 obtain ⟨⟨os,A1,c1,hS,hsz⟩,hr⟩:=HI.out
 have HS:=zH hS
 have HSZ:=zH hsz
 have y0:=(TOT.out _ _ _ _ _ _ hS).2.1
 obtain ⟨z0,z1,z2,z3⟩:=cells4v hS.blk
 have HRR:=zH hr
 clear hS hsz hr HI
 obtain ⟨r1,r2,r3,r4,h1,h2,h3,h4,⟨c0',c1',c2',c3'⟩,⟨t0,t1,t2,t3⟩,HQ,HZ⟩:=lpi_fin (r:=r) (b:=true) HS.out HOK.out HSZ.out O3.out G2.out hgl hgq ⟨fun _=>HRR.out.2 (by rw [List.drop_length,Lfc.Ods.eqs];trivial),fun _=>rfl⟩
 have hor:Oth w1.heap.size wr r4:=by rw [←h4,←h3,←h2,←h1];exact (((Oth.set _ _).trans (Oth.set _ _)).trans (Oth.set _ _)).trans (Oth.set _ _)
 have lr0:w.heap.size<wr.heap.size:=by have:=HS.out.frame.size;omega
 have lr1:w2.heap.size<wr.heap.size:=by have:=HS.out.frame.size;omega
 have v0:=(hor.cell (p:=⟨w.heap.size,0,none⟩) lr0 (by show w.heap.size≠w1.heap.size;omega)).trans y0
 have v1:=(hor.cell (p:=⟨w2.heap.size,0,none⟩) lr1 (by show w2.heap.size≠w1.heap.size;omega)).trans z0
 clear hor
 go_wp2_with fail
 go_region
 go_wp2_with fail
 refine bodyPost_ret (results_proof2 rfl _ _ _ _ _ _ _ rfl HQ.out) rfl ?_
 exact HZ.out.drew
theorem oSim2_any (q:Nat→Prop) (L W B:Nat→Nat→Prop) (Bx Mb:Nat) (ks:List Int) (fs:List Lfc.Fact) (ps:List Lfc.Ods) (A:Option Addr) (c:Nat) (w:World) (r:Prop) (hE:Cans ks fs Mb Bx L W B w A ps) (hn:ps.length≤1000) (hC:Cache ks fs Mb q w) (hq:∀b,w.heap.size≤b→q b) (hqM:∀b,q b→b≠Mb) (hr0:r↔Lfc.Ods.les L W B ps) :
  Calls Tryz.prog 155 #[.agg #[.slice A ps.length c],.pointer (some ⟨Bx,0,none⟩),.int .i64 2] w (PrvA ks fs Mb q w (Lfc.Ods.sizes ps+1) r):=by
 obtain ⟨w1,hw1⟩:∃w1,w.alloc (.cells #[.slice A ps.length c] 121)=w1:=⟨_,rfl⟩
 obtain ⟨w2,hw2⟩:∃w2,w1.alloc (.cells #[.int .i64 0,.slice none 0 0,.slice none 0 0,.slice none 0 0] 39)=w2:=⟨_,rfl⟩
 have b1:=zG hw1
 have b2:=zG hw2
 have q1:=zQ hw1
 have q2:=zQ hw2
 have l1:=zL q1
 have l2:=zL q2
 have b02:Below w.heap.size w w2:=b1.trans (b2.mono (by omega))
 have hMb:=hC.lt
 have hgM:w1.heap.size≠Mb:=by omega
 have hgl:w.heap.size≤w1.heap.size:=by omega
 have Q1:=zH ((b2.block _ l1).trans q1)
 have Q2:=zH q2
 have y0:w2.cell? ⟨w.heap.size,0,none⟩=some (.slice A ps.length c):=zC Q1.out 0
 have C2:Hid (Cache ks fs Mb (fun b=>q b∧b≠w1.heap.size) w2):=zH ((hC.weak (q':=fun b=>q b∧b≠w1.heap.size) (fun b hb hq=>⟨hq,by omega⟩)).below b02)
 have B02:=zH b02
 have HE:=zH hE
 have HQ0:=zH hq
 have HQM:=zH hqM
 have s02:w.heap.size≤w2.heap.size:=by omega
 have HR0:=zH hr0
 obtain ⟨w3,hw3⟩:∃w3,w2.alloc (.cells #[.int .i64 (ps.length:Int),.slice none 0 0,.slice none 0 0,.slice none 0 0] 39)=w3:=⟨_,rfl⟩
 obtain ⟨b3,l3,hok,hI0⟩:=lp_init (ps:=ps) (ix:=(ps.length:Int)) hw3 l2 (by omega) hgM HQM.out HQ0.out s02 C2.out
 have HOK:=zH hok
 have I0:=zH hI0
 have O3:Hid (Oth Mb w w3):=zH ((Oth.of_below B02.out).trans (Oth.of_below b3))
 have G1:Hid (w3.heap[w.heap.size]?=some (.cells #[.slice A ps.length c] 121 (0,0))):=zH ((b3.block _ (by omega)).trans Q1.out)
 have G2:Hid (w3.heap[w1.heap.size]?=some (.cells #[.int .i64 0,.slice none 0 0,.slice none 0 0,.slice none 0 0] 39 (0,0))):=zH ((b3.block _ (by omega)).trans Q2.out)
 have TOT:Hid (∀os n ix A' c' W,PSt ks fs q w2.heap.size w1.heap.size Mb w3 os n ix A' c' W→Oth Mb w W∧W.cell? ⟨w.heap.size,0,none⟩=some (.slice A ps.length c)∧w3.heap.size≤W.heap.size):=zH (fun os n ix A' c' W h=>⟨h.othw O3.out s02,(zC (lpi_stay h G1.out (by omega) (by omega)) 0).trans rfl,h.frame.size⟩)
 have hgq:w.heap.size≤w2.heap.size:=s02
 have hne0:w.heap.size≠w2.heap.size:=by omega
 clear b3 hok hI0
 clear b1 b2 q1 q2 b02 hE hC hq hqM hr0
 have y0':w3.cell? ⟨w.heap.size,0,none⟩=some (.slice A ps.length c):=(zC G1.out 0).trans rfl
 have HW3:=zH hw3
 clear hw3
 go_enter Tryz.func155,Tryz.ntmps155
 go_upto_region 5 with fail
 rw [HW3.out]
 go_wp2_with fail
 go_loopw [24] (fun i wr=>∃k:Nat,k≤ps.length∧i=.int .i64 (k:Int)∧Hid (LpI ks fs q w2.heap.size w1.heap.size Mb w3 ps k (ps.length:Int) wr∧(r↔Lfc.Ods.les L W B (ps.drop k)))) (fun i _=>ps.length-(intOf i).toNat)
 case atStart=>exact ⟨0,by omega,rfl,zH ⟨I0.out,by rw [List.drop_zero];exact HR0.out⟩⟩
 clear I0 HW3 y0 y0' hw1 hw2
 obtain ⟨k,hk,rfl,HI⟩:=hrel
 by_cases hlt:k<ps.length
 ·obtain ⟨⟨os,A1,c1,hS,hsz⟩,hr⟩:=HI.out
  have HRR:=zH hr
  clear hr
  obtain ⟨b,o,v,rfl,hb0,hbM,hcl,T,a,f,g,rfl,hme,hmw,⟨hcf,hcg⟩,hcan⟩:=HE.out k hlt
  have HS:=zH hS
  have HSZ:=zH hsz
  have szr:=(TOT.out _ _ _ _ _ _ hS).2.2
  have d0:=((TOT.out _ _ _ _ _ _ hS).1.cell (p:=⟨b,o+k,none⟩) hb0 hbM).trans hcl
  have hi0:(0:Int)≤(k:Int):=Int.natCast_nonneg _
  have hi1:(k:Int)<(ps.length:Int):=by omega
  have HQN:=zH (hS.qnew HOK.out)
  have OWr:=zH (TOT.out _ _ _ _ _ _ hS).1
  have hMw3:Mb<w3.heap.size:=HOK.out.lt.2.2
  obtain ⟨wp,hwp⟩:∃wp,wr.alloc (.cells #[.int .i64 0,.slice none 0 0,.slice none 0 0,.slice none 0 0] 39)=wp:=⟨_,rfl⟩
  have bp:=zG hwp
  have qp:=zQ hwp
  have wp_ge:wr.heap.size<wp.heap.size:=zL qp
  have OP:Hid (Oth Mb wr wp):=zH (Oth.of_below bp)
  have CP:Hid (Cache ks fs Mb (fun b=>PQ q w2.heap.size w1.heap.size (.slice A1 k c1) b∧b≠wr.heap.size) wp):=zH ((hS.cache.weak (q':=(fun b=>PQ q w2.heap.size w1.heap.size (.slice A1 k c1) b∧b≠wr.heap.size)) (fun b hb hq=>⟨hq,by omega⟩)).below bp)
  have QP:=zH qp
  have hSp:=hS.below HOK.out bp
  have i0':wp.cell? ⟨w2.heap.size,0,none⟩=some (.int .i64 (ps.length:Int)):=zC hSp.blk 0
  have yb:wp.cell? ⟨w.heap.size,0,none⟩=some (.slice (some ⟨b,o,none⟩) ps.length c):=(TOT.out _ _ _ _ _ _ hSp).2.1
  clear hcl hb0 hbM bp qp hSp hS hsz HI
  have CE:=zH ((hcan wp (fun b=>PQ q w2.heap.size w1.heap.size (.slice A1 k c1) b∧b≠wr.heap.size) (OWr.out.trans OP.out) CP.out (fun b hb=>⟨HQN.out b (by omega),by omega⟩) (fun b hb=>HS.out.qM HOK.out b hb.1)).1 2 _ (.inr (.inl ⟨rfl,Iff.rfl⟩)))
  clear hcan
  go_wp2_with fail
  refine CE.out.mono ?_
  rintro e wa ⟨⟨pf,ix1,A5,A6,A7,n5,n6,n7,c5,c6,c7,bz,rfl,hpf,hpz,hb⟩,hCa,hoa⟩
  have sza:=hoa.size
  obtain ⟨p11,p12,p13,v1,g1,g2,g3,g4,⟨x0,x1,x2,x3⟩,⟨f0,f1,f2,f3⟩,hq4,ho4⟩:=put4 ((hoa.block wr.heap.size wp_ge (fun e=>by have:=zO e;omega)).trans QP.out) (.int .i64 ix1) (.slice A5 n5 c5) (.slice A6 n6 c6) (.slice A7 n7 c7)
  have v1_ge:wr.heap.size<v1.heap.size:=by have:=wp_ge;have:=ho4.size;omega
  have HC1:Hid (Cache ks fs Mb (fun b=>PQ q w2.heap.size w1.heap.size (.slice A1 k c1) b∧b≠wr.heap.size) v1):=zH (hCa.keep (row:=some wr.heap.size) ho4 (fun e=>by have:=zO e;omega) (fun b hb _ e=>hb.2 (zO e)) (fun _ _ h=>h))
  have OW1:Hid (Oth Mb wr v1):=zH (oth_put ((OP.out).trans hoa) ho4 (zN _))
  have HS1:=zH (HS.out.oth HOK.out OW1.out (HC1.out.weak (fun b _ hb=>hb.1)))
  have HPF:=zH (PfP.keep (q':=PQ q w2.heap.size w1.heap.size (.slice A1 k c1)) (fun b hb hlt=>ho4.block b hlt (fun e=>hb.2 (zO e))) ho4.size (fun b _ hb=>hb.1) _ _ _ _ _ hpf)
  have HPZ:=zH hpz
  have HB:=zH hb
  have QG1:=zH hq4
  clear hpf hpz hb hCa hoa hq4 ho4 CE sza
  go_upto_region 16 with fail
  clear x0 x1 x2 x3 f0 f1 f2 f3 g1 g2 g3 g4
  clear i0' yb d0 hwp
  cases bz with
  | false =>
   have HNR:Hid (¬r):=zH (fun h=>by have:=HB.out.2 ((drop_les hlt).1 (HRR.out.1 h)).1;cases this)
   obtain ⟨s1,s2,s3,s4,h1,h2,h3,h4,⟨c0',c1',c2',c3'⟩,⟨t0,t1,t2,t3⟩,HQ,HZ⟩:=lpi_none HS1.out HOK.out O3.out G2.out hgl hgq HNR.out
   go_wp2_with fail
   refine bodyPost_ret (results_proof2 rfl _ _ _ _ _ _ _ rfl HQ.out) rfl ?_
   exact HZ.out
  | true =>
   obtain ⟨s3,e3,A',c',s4,s5,hrun,⟨d1,d2⟩,e5,hP5⟩:=HS1.out.push HOK.out HPF.out (by omega)
   have HRUN:=zH hrun
   have HN:=zH (lpi_next hlt HSZ.out HPZ.out hP5)
   have HG:Hid (r↔Lfc.Ods.les L W B (ps.drop (k+1))):=zH (HRR.out.trans ((drop_les hlt).trans ⟨fun h=>h.2,fun h=>⟨HB.out.1 rfl,h⟩⟩))
   have z1:v1.cell? ⟨w2.heap.size,1,none⟩=some (.slice A1 k c1):=zC HS1.out.blk 1
   obtain ⟨y0,y1,y2,y3⟩:=cells4v QG1.out
   clear hrun hP5 HPF HPZ
   go_wp2_with (at_builtin;refine wpList_append_run rfl _ _ 36 rfl _ _ _ _ rfl rfl HRUN.out ?_)
   go_roundw
   case rel=>exact ⟨k+1,by omega,by go_num,zH (⟨HN.out,HG.out⟩)⟩
   case measure=>simp [intOf];omega
 obtain rfl:k=ps.length:=by omega
 obtain ⟨⟨os,A1,c1,hS,hsz⟩,hr⟩:=HI.out
 have HS:=zH hS
 have HSZ:=zH hsz
 have y0:=(TOT.out _ _ _ _ _ _ hS).2.1
 obtain ⟨z0,z1,z2,z3⟩:=cells4v hS.blk
 have HRR:=zH hr
 clear hS hsz hr HI
 obtain ⟨r1,r2,r3,r4,h1,h2,h3,h4,⟨c0',c1',c2',c3'⟩,⟨t0,t1,t2,t3⟩,HQ,HZ⟩:=lpi_fin (r:=r) (b:=true) HS.out HOK.out HSZ.out O3.out G2.out hgl hgq ⟨fun _=>HRR.out.2 (by rw [List.drop_length,Lfc.Ods.les];trivial),fun _=>rfl⟩
 have hor:Oth w1.heap.size wr r4:=by rw [←h4,←h3,←h2,←h1];exact (((Oth.set _ _).trans (Oth.set _ _)).trans (Oth.set _ _)).trans (Oth.set _ _)
 have lr0:w.heap.size<wr.heap.size:=by have:=HS.out.frame.size;omega
 have lr1:w2.heap.size<wr.heap.size:=by have:=HS.out.frame.size;omega
 have v0:=(hor.cell (p:=⟨w.heap.size,0,none⟩) lr0 (by show w.heap.size≠w1.heap.size;omega)).trans y0
 have v1:=(hor.cell (p:=⟨w2.heap.size,0,none⟩) lr1 (by show w2.heap.size≠w1.heap.size;omega)).trans z0
 clear hor
 go_wp2_with fail
 go_region
 go_wp2_with fail
 refine bodyPost_ret (results_proof2 rfl _ _ _ _ _ _ _ rfl HQ.out) rfl ?_
 exact HZ.out.drew
theorem oSim1_any (q:Nat→Prop) (L W B:Nat→Nat→Prop) (Bx Mb:Nat) (ks:List Int) (fs:List Lfc.Fact) (ps:List Lfc.Ods) (A:Option Addr) (c:Nat) (w:World) (r:Prop) (hE:Cans ks fs Mb Bx L W B w A ps) (hn:ps.length≤1000) (hC:Cache ks fs Mb q w) (hq:∀b,w.heap.size≤b→q b) (hqM:∀b,q b→b≠Mb) (hr0:r↔Lfc.Ods.simL L W B ps) :
  Calls Tryz.prog 155 #[.agg #[.slice A ps.length c],.pointer (some ⟨Bx,0,none⟩),.int .i64 1] w (PrvA ks fs Mb q w (Lfc.Ods.sizes ps+1) r):=by
 obtain ⟨w1,hw1⟩:∃w1,w.alloc (.cells #[.slice A ps.length c] 121)=w1:=⟨_,rfl⟩
 obtain ⟨w2,hw2⟩:∃w2,w1.alloc (.cells #[.int .i64 0,.slice none 0 0,.slice none 0 0,.slice none 0 0] 39)=w2:=⟨_,rfl⟩
 have b1:=zG hw1
 have b2:=zG hw2
 have q1:=zQ hw1
 have q2:=zQ hw2
 have l1:=zL q1
 have l2:=zL q2
 have b02:Below w.heap.size w w2:=b1.trans (b2.mono (by omega))
 have hMb:=hC.lt
 have hgM:w1.heap.size≠Mb:=by omega
 have hgl:w.heap.size≤w1.heap.size:=by omega
 have Q1:=zH ((b2.block _ l1).trans q1)
 have Q2:=zH q2
 have y0:w2.cell? ⟨w.heap.size,0,none⟩=some (.slice A ps.length c):=zC Q1.out 0
 have C2:Hid (Cache ks fs Mb (fun b=>q b∧b≠w1.heap.size) w2):=zH ((hC.weak (q':=fun b=>q b∧b≠w1.heap.size) (fun b hb hq=>⟨hq,by omega⟩)).below b02)
 have B02:=zH b02
 have HE:=zH hE
 have HQ0:=zH hq
 have HQM:=zH hqM
 have s02:w.heap.size≤w2.heap.size:=by omega
 have HR0:=zH hr0
 obtain ⟨w3,hw3⟩:∃w3,w2.alloc (.cells #[.int .i64 (ps.length:Int),.slice none 0 0,.slice none 0 0,.slice none 0 0] 39)=w3:=⟨_,rfl⟩
 obtain ⟨b3,l3,hok,hI0⟩:=lp_init (ps:=ps) (ix:=(ps.length:Int)) hw3 l2 (by omega) hgM HQM.out HQ0.out s02 C2.out
 have HOK:=zH hok
 have I0:=zH hI0
 have O3:Hid (Oth Mb w w3):=zH ((Oth.of_below B02.out).trans (Oth.of_below b3))
 have G1:Hid (w3.heap[w.heap.size]?=some (.cells #[.slice A ps.length c] 121 (0,0))):=zH ((b3.block _ (by omega)).trans Q1.out)
 have G2:Hid (w3.heap[w1.heap.size]?=some (.cells #[.int .i64 0,.slice none 0 0,.slice none 0 0,.slice none 0 0] 39 (0,0))):=zH ((b3.block _ (by omega)).trans Q2.out)
 have TOT:Hid (∀os n ix A' c' W,PSt ks fs q w2.heap.size w1.heap.size Mb w3 os n ix A' c' W→Oth Mb w W∧W.cell? ⟨w.heap.size,0,none⟩=some (.slice A ps.length c)∧w3.heap.size≤W.heap.size):=zH (fun os n ix A' c' W h=>⟨h.othw O3.out s02,(zC (lpi_stay h G1.out (by omega) (by omega)) 0).trans rfl,h.frame.size⟩)
 have hgq:w.heap.size≤w2.heap.size:=s02
 have hne0:w.heap.size≠w2.heap.size:=by omega
 clear b3 hok hI0
 clear b1 b2 q1 q2 b02 hE hC hq hqM hr0
 have y0':w3.cell? ⟨w.heap.size,0,none⟩=some (.slice A ps.length c):=(zC G1.out 0).trans rfl
 have HW3:=zH hw3
 clear hw3
 go_enter Tryz.func155,Tryz.ntmps155
 go_upto_region 5 with fail
 rw [HW3.out]
 go_wp2_with fail
 go_loopw [24] (fun i wr=>∃k:Nat,k≤ps.length∧i=.int .i64 (k:Int)∧Hid (∃ix:Int,LpI ks fs q w2.heap.size w1.heap.size Mb w3 ps k ix wr∧((ix=(ps.length:Int)∧(r↔Lfc.Ods.simL L W B (ps.drop k)))∨((0≤ix∧ix<(ps.length:Int))∧(r↔Lfc.Ods.les L W B (ps.drop k)))))) (fun i _=>ps.length-(intOf i).toNat)
 case atStart=>exact ⟨0,by omega,rfl,zH ⟨(ps.length:Int),I0.out,.inl ⟨rfl,by rw [List.drop_zero];exact HR0.out⟩⟩⟩
 clear I0 HW3 y0 y0' hw1 hw2
 obtain ⟨k,hk,rfl,HI⟩:=hrel
 by_cases hlt:k<ps.length
 ·obtain ⟨ix,⟨os,A1,c1,hS,hsz⟩,⟨rfl,hr⟩ | ⟨⟨hx0,hx1⟩,hr⟩⟩:=HI.out
  ·have HRR:=zH hr
   clear hr
   obtain ⟨b,o,v,rfl,hb0,hbM,hcl,T,a,f,g,rfl,hme,hmw,⟨hcf,hcg⟩,hcan⟩:=HE.out k hlt
   have HS:=zH hS
   have HSZ:=zH hsz
   have szr:=(TOT.out _ _ _ _ _ _ hS).2.2
   have d0:=((TOT.out _ _ _ _ _ _ hS).1.cell (p:=⟨b,o+k,none⟩) hb0 hbM).trans hcl
   have hi0:(0:Int)≤(k:Int):=Int.natCast_nonneg _
   have hi1:(k:Int)<(ps.length:Int):=by omega
   have HQN:=zH (hS.qnew HOK.out)
   have OWr:=zH (TOT.out _ _ _ _ _ _ hS).1
   have hMw3:Mb<w3.heap.size:=HOK.out.lt.2.2
   obtain ⟨wp,hwp⟩:∃wp,wr.alloc (.cells #[.int .i64 0,.slice none 0 0,.slice none 0 0,.slice none 0 0] 39)=wp:=⟨_,rfl⟩
   have bp:=zG hwp
   have qp:=zQ hwp
   have wp_ge:wr.heap.size<wp.heap.size:=zL qp
   have OP:Hid (Oth Mb wr wp):=zH (Oth.of_below bp)
   have CP:Hid (Cache ks fs Mb (fun b=>PQ q w2.heap.size w1.heap.size (.slice A1 k c1) b∧b≠wr.heap.size) wp):=zH ((hS.cache.weak (q':=(fun b=>PQ q w2.heap.size w1.heap.size (.slice A1 k c1) b∧b≠wr.heap.size)) (fun b hb hq=>⟨hq,by omega⟩)).below bp)
   have QP:=zH qp
   have hSp:=hS.below HOK.out bp
   have i0':wp.cell? ⟨w2.heap.size,0,none⟩=some (.int .i64 (ps.length:Int)):=zC hSp.blk 0
   have yb:wp.cell? ⟨w.heap.size,0,none⟩=some (.slice (some ⟨b,o,none⟩) ps.length c):=(TOT.out _ _ _ _ _ _ hSp).2.1
   clear hcl hb0 hbM bp qp hSp hS hsz HI
   have CE:=zH ((hcan wp (fun b=>PQ q w2.heap.size w1.heap.size (.slice A1 k c1) b∧b≠wr.heap.size) (OWr.out.trans OP.out) CP.out (fun b hb=>⟨HQN.out b (by omega),by omega⟩) (fun b hb=>HS.out.qM HOK.out b hb.1)).1 1 _ (.inl ⟨rfl,Iff.rfl⟩))
   have HCAN:=zH hcan
   clear hcan
   go_wp2_with fail
   refine CE.out.mono ?_
   rintro e wa ⟨⟨pf,ix1,A5,A6,A7,n5,n6,n7,c5,c6,c7,bz,rfl,hpf,hpz,hb⟩,hCa,hoa⟩
   have sza:=hoa.size
   obtain ⟨p11,p12,p13,v1,g1,g2,g3,g4,⟨x0,x1,x2,x3⟩,⟨f0,f1,f2,f3⟩,hq4,ho4⟩:=put4 ((hoa.block wr.heap.size wp_ge (fun e=>by have:=zO e;omega)).trans QP.out) (.int .i64 ix1) (.slice A5 n5 c5) (.slice A6 n6 c6) (.slice A7 n7 c7)
   have v1_ge:wr.heap.size<v1.heap.size:=by have:=wp_ge;have:=ho4.size;omega
   have HC1:Hid (Cache ks fs Mb (fun b=>PQ q w2.heap.size w1.heap.size (.slice A1 k c1) b∧b≠wr.heap.size) v1):=zH (hCa.keep (row:=some wr.heap.size) ho4 (fun e=>by have:=zO e;omega) (fun b hb _ e=>hb.2 (zO e)) (fun _ _ h=>h))
   have OW1:Hid (Oth Mb wr v1):=zH (oth_put ((OP.out).trans hoa) ho4 (zN _))
   have HS1:=zH (HS.out.oth HOK.out OW1.out (HC1.out.weak (fun b _ hb=>hb.1)))
   have HPF:=zH (PfP.keep (q':=PQ q w2.heap.size w1.heap.size (.slice A1 k c1)) (fun b hb hlt=>ho4.block b hlt (fun e=>hb.2 (zO e))) ho4.size (fun b _ hb=>hb.1) _ _ _ _ _ hpf)
   have HPZ:=zH hpz
   have HB:=zH hb
   have QG1:=zH hq4
   clear hpf hpz hb hCa hoa hq4 ho4 CE sza
   go_upto_region 12 with fail
   clear x0 x1 x2 x3 f0 f1 f2 f3 g1 g2 g3 g4
   clear i0' yb d0 hwp
   cases bz with
   | true =>
    obtain ⟨v2,e2,⟨i1,i2⟩,hS2⟩:=HS1.out.setIx HOK.out (k:Int)
    have ho2:Oth w2.heap.size v1 v2:=by rw [←e2];exact Oth.set _ _
    have hg2:v2.heap[wr.heap.size]?=some (.cells #[.int .i64 ix1,.slice A5 n5 c5,.slice A6 n6 c6,.slice A7 n7 c7] 39 (0,0)):=ho2.heap QG1.out (by have:=HOK.out.lt.1;omega)
    have HPF2:=PfP.keep (q':=PQ q w2.heap.size w1.heap.size (.slice A1 k c1)) (fun b hb hlt=>ho2.block b hlt (fun e=>hb.2.1.1 (zO e))) ho2.size (fun b _ hb=>hb) _ _ _ _ _ HPF.out
    have HLS:Hid (Lfc.Ods.ls L W B ps[k]):=zH (HB.out.1 rfl)
    have HS2:=zH hS2
    have QG2:=zH hg2
    clear HPF
    have HPF:=zH HPF2
    clear ho2 hg2 HPF2 hS2 HB
    obtain ⟨s3,e3,A',c',s4,s5,hrun,⟨d1,d2⟩,e5,hP5⟩:=HS2.out.push HOK.out HPF.out (by omega)
    have HRUN:=zH hrun
    have HN:=zH (lpi_next hlt HSZ.out HPZ.out hP5)
    have HG:Hid (r↔Lfc.Ods.les L W B (ps.drop (k+1))):=zH (HRR.out.trans ((drop_simL hlt).trans ⟨fun h=>h.elim (fun h=>h.2) (fun h=>absurd HLS.out h.1),fun h=>.inl ⟨HLS.out,h⟩⟩))
    have z1:v2.cell? ⟨w2.heap.size,1,none⟩=some (.slice A1 k c1):=zC HS2.out.blk 1
    obtain ⟨y0,y1,y2,y3⟩:=cells4v QG2.out
    clear hrun hP5 HPF HPZ
    go_wp2_with (at_builtin;refine wpList_append_run rfl _ _ 36 rfl _ _ _ _ rfl rfl HRUN.out ?_)
    go_roundw
    case rel=>exact ⟨k+1,by omega,by go_num,zH (⟨(k:Int),HN.out,.inr ⟨⟨hi0,hi1⟩,HG.out⟩⟩)⟩
    case measure=>simp [intOf];omega
   | false =>
    have HNL:Hid (¬Lfc.Ods.ls L W B ps[k]):=zH (fun h=>by have:=HB.out.2 h;cases this)
    have hcan:=HCAN.out
    clear HB HPF HPZ
    have CE:=zH (hcan v1 (fun b=>PQ q w2.heap.size w1.heap.size (.slice A1 k c1) b∧b≠wr.heap.size) (OWr.out.trans OW1.out) HC1.out (fun b hb=>⟨HQN.out b (by omega),by omega⟩) (fun b hb=>HS.out.qM HOK.out b hb.1)).2
    clear hcan
    go_wp2_with fail
    refine CE.out.mono ?_
    rintro e wa ⟨⟨pf,ix1,A5,A6,A7,n5,n6,n7,c5,c6,c7,bz,rfl,hpf,hpz,hb⟩,hCa,hoa⟩
    have sza:=hoa.size
    obtain ⟨p21,p22,p23,v2,g1,g2,g3,g4,⟨x0,x1,x2,x3⟩,⟨f0,f1,f2,f3⟩,hq4,ho4⟩:=put4 ((hoa.block wr.heap.size v1_ge (fun e=>by have:=zO e;omega)).trans QG1.out) (.int .i64 ix1) (.slice A5 n5 c5) (.slice A6 n6 c6) (.slice A7 n7 c7)
    have v2_ge:wr.heap.size<v2.heap.size:=by have:=v1_ge;have:=ho4.size;omega
    have HC2:Hid (Cache ks fs Mb (fun b=>PQ q w2.heap.size w1.heap.size (.slice A1 k c1) b∧b≠wr.heap.size) v2):=zH (hCa.keep (row:=some wr.heap.size) ho4 (fun e=>by have:=zO e;omega) (fun b hb _ e=>hb.2 (zO e)) (fun _ _ h=>h))
    have OW2:Hid (Oth Mb wr v2):=zH (oth_put ((OW1.out).trans hoa) ho4 (zN _))
    have HS2:=zH (HS.out.oth HOK.out OW2.out (HC2.out.weak (fun b _ hb=>hb.1)))
    have HPF:=zH (PfP.keep (q':=PQ q w2.heap.size w1.heap.size (.slice A1 k c1)) (fun b hb hlt=>ho4.block b hlt (fun e=>hb.2 (zO e))) ho4.size (fun b _ hb=>hb.1) _ _ _ _ _ hpf)
    have HPZ:=zH hpz
    have HB:=zH hb
    have QG2:=zH hq4
    clear hpf hpz hb hCa hoa hq4 ho4 CE sza
    go_upto_region 16 with fail
    clear x0 x1 x2 x3 f0 f1 f2 f3 g1 g2 g3 g4
    cases bz with
    | false =>
     have HNR:Hid (¬r):=zH (fun h=>((drop_simL hlt).1 (HRR.out.1 h)).elim (fun h=>HNL.out h.1) (fun h=>by have:=HB.out.2 h.2.1;cases this))
     obtain ⟨s1,s2,s3,s4,h1,h2,h3,h4,⟨c0',c1',c2',c3'⟩,⟨t0,t1,t2,t3⟩,HQ,HZ⟩:=lpi_none HS2.out HOK.out O3.out G2.out hgl hgq HNR.out
     go_wp2_with fail
     refine bodyPost_ret (results_proof2 rfl _ _ _ _ _ _ _ rfl HQ.out) rfl ?_
     exact HZ.out
    | true =>
     obtain ⟨s3,e3,A',c',s4,s5,hrun,⟨d1,d2⟩,e5,hP5⟩:=HS2.out.push HOK.out HPF.out (by omega)
     have HRUN:=zH hrun
     have HN:=zH (lpi_next hlt HSZ.out HPZ.out hP5)
     have HG:Hid (r↔Lfc.Ods.simL L W B (ps.drop (k+1))):=zH (HRR.out.trans ((drop_simL hlt).trans ⟨fun h=>h.elim (fun h=>absurd h.1 HNL.out) (fun h=>h.2.2),fun h=>.inr ⟨HNL.out,HB.out.1 rfl,h⟩⟩))
     have z1:v2.cell? ⟨w2.heap.size,1,none⟩=some (.slice A1 k c1):=zC HS2.out.blk 1
     obtain ⟨y0,y1,y2,y3⟩:=cells4v QG2.out
     clear hrun hP5 HPF HPZ
     go_wp2_with (at_builtin;refine wpList_append_run rfl _ _ 36 rfl _ _ _ _ rfl rfl HRUN.out ?_)
     go_roundw
     case rel=>exact ⟨k+1,by omega,by go_num,zH (⟨(ps.length:Int),HN.out,.inl ⟨rfl,HG.out⟩⟩)⟩
     case measure=>simp [intOf];omega
  have HRR:=zH hr
  clear hr
  have hxd:decide (ix=(ps.length:Int))=false:=by rw [decide_eq_false_iff_not];omega
  have hxb:(ix == (ps.length:Int))=false:=by simp;omega
  obtain ⟨b,o,v,rfl,hb0,hbM,hcl,T,a,f,g,rfl,hme,hmw,⟨hcf,hcg⟩,hcan⟩:=HE.out k hlt
  have HS:=zH hS
  have HSZ:=zH hsz
  have szr:=(TOT.out _ _ _ _ _ _ hS).2.2
  have d0:=((TOT.out _ _ _ _ _ _ hS).1.cell (p:=⟨b,o+k,none⟩) hb0 hbM).trans hcl
  have hi0:(0:Int)≤(k:Int):=Int.natCast_nonneg _
  have hi1:(k:Int)<(ps.length:Int):=by omega
  have HQN:=zH (hS.qnew HOK.out)
  have OWr:=zH (TOT.out _ _ _ _ _ _ hS).1
  have hMw3:Mb<w3.heap.size:=HOK.out.lt.2.2
  obtain ⟨wp,hwp⟩:∃wp,wr.alloc (.cells #[.int .i64 0,.slice none 0 0,.slice none 0 0,.slice none 0 0] 39)=wp:=⟨_,rfl⟩
  have bp:=zG hwp
  have qp:=zQ hwp
  have wp_ge:wr.heap.size<wp.heap.size:=zL qp
  have OP:Hid (Oth Mb wr wp):=zH (Oth.of_below bp)
  have CP:Hid (Cache ks fs Mb (fun b=>PQ q w2.heap.size w1.heap.size (.slice A1 k c1) b∧b≠wr.heap.size) wp):=zH ((hS.cache.weak (q':=(fun b=>PQ q w2.heap.size w1.heap.size (.slice A1 k c1) b∧b≠wr.heap.size)) (fun b hb hq=>⟨hq,by omega⟩)).below bp)
  have QP:=zH qp
  have hSp:=hS.below HOK.out bp
  have i0':wp.cell? ⟨w2.heap.size,0,none⟩=some (.int .i64 ix):=zC hSp.blk 0
  have yb:wp.cell? ⟨w.heap.size,0,none⟩=some (.slice (some ⟨b,o,none⟩) ps.length c):=(TOT.out _ _ _ _ _ _ hSp).2.1
  clear hcl hb0 hbM bp qp hSp hS hsz HI
  have CE:=zH ((hcan wp (fun b=>PQ q w2.heap.size w1.heap.size (.slice A1 k c1) b∧b≠wr.heap.size) (OWr.out.trans OP.out) CP.out (fun b hb=>⟨HQN.out b (by omega),by omega⟩) (fun b hb=>HS.out.qM HOK.out b hb.1)).1 2 _ (.inr (.inl ⟨rfl,Iff.rfl⟩)))
  clear hcan
  go_wp2_with fail
  refine CE.out.mono ?_
  rintro e wa ⟨⟨pf,ix1,A5,A6,A7,n5,n6,n7,c5,c6,c7,bz,rfl,hpf,hpz,hb⟩,hCa,hoa⟩
  have sza:=hoa.size
  obtain ⟨p11,p12,p13,v1,g1,g2,g3,g4,⟨x0,x1,x2,x3⟩,⟨f0,f1,f2,f3⟩,hq4,ho4⟩:=put4 ((hoa.block wr.heap.size wp_ge (fun e=>by have:=zO e;omega)).trans QP.out) (.int .i64 ix1) (.slice A5 n5 c5) (.slice A6 n6 c6) (.slice A7 n7 c7)
  have v1_ge:wr.heap.size<v1.heap.size:=by have:=wp_ge;have:=ho4.size;omega
  have HC1:Hid (Cache ks fs Mb (fun b=>PQ q w2.heap.size w1.heap.size (.slice A1 k c1) b∧b≠wr.heap.size) v1):=zH (hCa.keep (row:=some wr.heap.size) ho4 (fun e=>by have:=zO e;omega) (fun b hb _ e=>hb.2 (zO e)) (fun _ _ h=>h))
  have OW1:Hid (Oth Mb wr v1):=zH (oth_put ((OP.out).trans hoa) ho4 (zN _))
  have HS1:=zH (HS.out.oth HOK.out OW1.out (HC1.out.weak (fun b _ hb=>hb.1)))
  have HPF:=zH (PfP.keep (q':=PQ q w2.heap.size w1.heap.size (.slice A1 k c1)) (fun b hb hlt=>ho4.block b hlt (fun e=>hb.2 (zO e))) ho4.size (fun b _ hb=>hb.1) _ _ _ _ _ hpf)
  have HPZ:=zH hpz
  have HB:=zH hb
  have QG1:=zH hq4
  clear hpf hpz hb hCa hoa hq4 ho4 CE sza
  go_upto_region 16 with fail
  clear x0 x1 x2 x3 f0 f1 f2 f3 g1 g2 g3 g4
  clear i0' yb d0 hwp
  cases bz with
  | false =>
   have HNR:Hid (¬r):=zH (fun h=>by have:=HB.out.2 ((drop_les hlt).1 (HRR.out.1 h)).1;cases this)
   obtain ⟨s1,s2,s3,s4,h1,h2,h3,h4,⟨c0',c1',c2',c3'⟩,⟨t0,t1,t2,t3⟩,HQ,HZ⟩:=lpi_none HS1.out HOK.out O3.out G2.out hgl hgq HNR.out
   go_wp2_with fail
   refine bodyPost_ret (results_proof2 rfl _ _ _ _ _ _ _ rfl HQ.out) rfl ?_
   exact HZ.out
  | true =>
   obtain ⟨s3,e3,A',c',s4,s5,hrun,⟨d1,d2⟩,e5,hP5⟩:=HS1.out.push HOK.out HPF.out (by omega)
   have HRUN:=zH hrun
   have HN:=zH (lpi_next hlt HSZ.out HPZ.out hP5)
   have HG:Hid (r↔Lfc.Ods.les L W B (ps.drop (k+1))):=zH (HRR.out.trans ((drop_les hlt).trans ⟨fun h=>h.2,fun h=>⟨HB.out.1 rfl,h⟩⟩))
   have z1:v1.cell? ⟨w2.heap.size,1,none⟩=some (.slice A1 k c1):=zC HS1.out.blk 1
   obtain ⟨y0,y1,y2,y3⟩:=cells4v QG1.out
   clear hrun hP5 HPF HPZ
   go_wp2_with (at_builtin;refine wpList_append_run rfl _ _ 36 rfl _ _ _ _ rfl rfl HRUN.out ?_)
   go_roundw
   case rel=>exact ⟨k+1,by omega,by go_num,zH (⟨ix,HN.out,.inr ⟨⟨hx0,hx1⟩,HG.out⟩⟩)⟩
   case measure=>simp [intOf];omega
 obtain rfl:k=ps.length:=by omega
 obtain ⟨ix,⟨os,A1,c1,hS,hsz⟩,⟨rfl,hr⟩ | ⟨⟨hx0,hx1⟩,hr⟩⟩:=HI.out
 ·have HS:=zH hS
  have HSZ:=zH hsz
  have y0:=(TOT.out _ _ _ _ _ _ hS).2.1
  obtain ⟨z0,z1,z2,z3⟩:=cells4v hS.blk
  have HRR:=zH hr
  clear hS hsz hr HI
  obtain ⟨r1,r2,r3,r4,h1,h2,h3,h4,⟨c0',c1',c2',c3'⟩,⟨t0,t1,t2,t3⟩,HQ,HZ⟩:=lpi_fin (r:=r) (b:=false) HS.out HOK.out HSZ.out O3.out G2.out hgl hgq ⟨fun h=>(by cases h),fun h=>by have h:=HRR.out.1 h;rw [List.drop_length,Lfc.Ods.simL] at h;exact h.elim⟩
  have hor:Oth w1.heap.size wr r4:=by rw [←h4,←h3,←h2,←h1];exact (((Oth.set _ _).trans (Oth.set _ _)).trans (Oth.set _ _)).trans (Oth.set _ _)
  have lr0:w.heap.size<wr.heap.size:=by have:=HS.out.frame.size;omega
  have lr1:w2.heap.size<wr.heap.size:=by have:=HS.out.frame.size;omega
  have v0:=(hor.cell (p:=⟨w.heap.size,0,none⟩) lr0 (by show w.heap.size≠w1.heap.size;omega)).trans y0
  have v1:=(hor.cell (p:=⟨w2.heap.size,0,none⟩) lr1 (by show w2.heap.size≠w1.heap.size;omega)).trans z0
  clear hor
  go_wp2_with fail
  go_region
  go_wp2_with fail
  refine bodyPost_ret (results_proof2 rfl _ _ _ _ _ _ _ rfl HQ.out) rfl ?_
  exact HZ.out.drew
 have HS:=zH hS
 have HSZ:=zH hsz
 have y0:=(TOT.out _ _ _ _ _ _ hS).2.1
 obtain ⟨z0,z1,z2,z3⟩:=cells4v hS.blk
 have HRR:=zH hr
 clear hS hsz hr HI
 obtain ⟨r1,r2,r3,r4,h1,h2,h3,h4,⟨c0',c1',c2',c3'⟩,⟨t0,t1,t2,t3⟩,HQ,HZ⟩:=lpi_fin (r:=r) (b:=true) HS.out HOK.out HSZ.out O3.out G2.out hgl hgq ⟨fun _=>HRR.out.2 (by rw [List.drop_length,Lfc.Ods.les];trivial),fun _=>rfl⟩
 have hor:Oth w1.heap.size wr r4:=by rw [←h4,←h3,←h2,←h1];exact (((Oth.set _ _).trans (Oth.set _ _)).trans (Oth.set _ _)).trans (Oth.set _ _)
 have lr0:w.heap.size<wr.heap.size:=by have:=HS.out.frame.size;omega
 have lr1:w2.heap.size<wr.heap.size:=by have:=HS.out.frame.size;omega
 have v0:=(hor.cell (p:=⟨w.heap.size,0,none⟩) lr0 (by show w.heap.size≠w1.heap.size;omega)).trans y0
 have v1:=(hor.cell (p:=⟨w2.heap.size,0,none⟩) lr1 (by show w2.heap.size≠w1.heap.size;omega)).trans z0
 clear hor
 go_wp2_with fail
 go_region
 go_wp2_with fail
 refine bodyPost_ret (results_proof2 rfl _ _ _ _ _ _ _ rfl HQ.out) rfl ?_
 exact HZ.out.drew
theorem oSimW_any (q:Nat→Prop) (L W B:Nat→Nat→Prop) (Bx Mb:Nat) (ks:List Int) (fs:List Lfc.Fact) (ps:List Lfc.Ods) (A:Option Addr) (c:Nat) (w:World) (r:Prop) (hE:Cans ks fs Mb Bx L W B w A ps) (hn:ps.length≤1000) (hC:Cache ks fs Mb q w) (hq:∀b,w.heap.size≤b→q b) (hqM:∀b,q b→b≠Mb) (hr0:r↔Lfc.Ods.wks W B ps) :
  Calls Tryz.prog 157 #[.agg #[.slice A ps.length c],.pointer (some ⟨Bx,0,none⟩)] w (PrvA ks fs Mb q w (Lfc.Ods.sizes ps+1) r):=by
 obtain ⟨w1,hw1⟩:∃w1,w.alloc (.cells #[.slice A ps.length c] 121)=w1:=⟨_,rfl⟩
 obtain ⟨w2,hw2⟩:∃w2,w1.alloc (.cells #[.int .i64 0,.slice none 0 0,.slice none 0 0,.slice none 0 0] 39)=w2:=⟨_,rfl⟩
 have b1:=zG hw1
 have b2:=zG hw2
 have q1:=zQ hw1
 have q2:=zQ hw2
 have l1:=zL q1
 have l2:=zL q2
 have b02:Below w.heap.size w w2:=b1.trans (b2.mono (by omega))
 have hMb:=hC.lt
 have hgM:w1.heap.size≠Mb:=by omega
 have hgl:w.heap.size≤w1.heap.size:=by omega
 have Q1:=zH ((b2.block _ l1).trans q1)
 have Q2:=zH q2
 have y0:w2.cell? ⟨w.heap.size,0,none⟩=some (.slice A ps.length c):=zC Q1.out 0
 have C2:Hid (Cache ks fs Mb (fun b=>q b∧b≠w1.heap.size) w2):=zH ((hC.weak (q':=fun b=>q b∧b≠w1.heap.size) (fun b hb hq=>⟨hq,by omega⟩)).below b02)
 have B02:=zH b02
 have HE:=zH hE
 have HQ0:=zH hq
 have HQM:=zH hqM
 have s02:w.heap.size≤w2.heap.size:=by omega
 have HR0:=zH hr0
 obtain ⟨w3,hw3⟩:∃w3,w2.alloc (.cells #[.int .i64 (ps.length:Int),.slice none 0 0,.slice none 0 0,.slice none 0 0] 39)=w3:=⟨_,rfl⟩
 obtain ⟨b3,l3,hok,hI0⟩:=lp_init (ps:=ps) (ix:=(ps.length:Int)) hw3 l2 (by omega) hgM HQM.out HQ0.out s02 C2.out
 have HOK:=zH hok
 have I0:=zH hI0
 have O3:Hid (Oth Mb w w3):=zH ((Oth.of_below B02.out).trans (Oth.of_below b3))
 have G1:Hid (w3.heap[w.heap.size]?=some (.cells #[.slice A ps.length c] 121 (0,0))):=zH ((b3.block _ (by omega)).trans Q1.out)
 have G2:Hid (w3.heap[w1.heap.size]?=some (.cells #[.int .i64 0,.slice none 0 0,.slice none 0 0,.slice none 0 0] 39 (0,0))):=zH ((b3.block _ (by omega)).trans Q2.out)
 have TOT:Hid (∀os n ix A' c' W,PSt ks fs q w2.heap.size w1.heap.size Mb w3 os n ix A' c' W→Oth Mb w W∧W.cell? ⟨w.heap.size,0,none⟩=some (.slice A ps.length c)∧w3.heap.size≤W.heap.size):=zH (fun os n ix A' c' W h=>⟨h.othw O3.out s02,(zC (lpi_stay h G1.out (by omega) (by omega)) 0).trans rfl,h.frame.size⟩)
 have hgq:w.heap.size≤w2.heap.size:=s02
 have hne0:w.heap.size≠w2.heap.size:=by omega
 clear b3 hok hI0
 clear b1 b2 q1 q2 b02 hE hC hq hqM hr0
 have y0':w3.cell? ⟨w.heap.size,0,none⟩=some (.slice A ps.length c):=(zC G1.out 0).trans rfl
 have HW3:=zH hw3
 clear hw3
 go_enter Tryz.func157,Tryz.ntmps157
 go_upto_region 2 with fail
 rw [HW3.out]
 go_wp2_with fail
 go_loopw [18] (fun i wr=>∃k:Nat,k≤ps.length∧i=.int .i64 (k:Int)∧Hid (LpI ks fs q w2.heap.size w1.heap.size Mb w3 ps k (ps.length:Int) wr∧(r↔Lfc.Ods.wks W B (ps.drop k)))) (fun i _=>ps.length-(intOf i).toNat)
 case atStart=>exact ⟨0,by omega,rfl,zH ⟨I0.out,by rw [List.drop_zero];exact HR0.out⟩⟩
 clear I0 HW3 y0 y0' hw1 hw2
 obtain ⟨k,hk,rfl,HI⟩:=hrel
 by_cases hlt:k<ps.length
 ·obtain ⟨⟨os,A1,c1,hS,hsz⟩,hr⟩:=HI.out
  have HRR:=zH hr
  clear hr
  obtain ⟨b,o,v,rfl,hb0,hbM,hcl,T,a,f,g,rfl,hme,hmw,⟨hcf,hcg⟩,hcan⟩:=HE.out k hlt
  have HS:=zH hS
  have HSZ:=zH hsz
  have szr:=(TOT.out _ _ _ _ _ _ hS).2.2
  have d0:=((TOT.out _ _ _ _ _ _ hS).1.cell (p:=⟨b,o+k,none⟩) hb0 hbM).trans hcl
  have hi0:(0:Int)≤(k:Int):=Int.natCast_nonneg _
  have hi1:(k:Int)<(ps.length:Int):=by omega
  have HQN:=zH (hS.qnew HOK.out)
  have OWr:=zH (TOT.out _ _ _ _ _ _ hS).1
  have hMw3:Mb<w3.heap.size:=HOK.out.lt.2.2
  have CE:=zH (hcan wr (PQ q w2.heap.size w1.heap.size (.slice A1 k c1)) (TOT.out _ _ _ _ _ _ hS).1 hS.cache (hS.qnew HOK.out) (hS.qM HOK.out)).2
  clear hme hcf hcl hb0 hbM hS hsz HI hcan
  go_wp2_with fail
  refine CE.out.mono ?_
  rintro e wa ⟨⟨pf,ix1,A5,A6,A7,n5,n6,n7,c5,c6,c7,bz,rfl,hpf,hpz,hb⟩,hCa,hoa⟩
  obtain ⟨wb,hwb⟩:∃wb,wa.alloc (.cells #[.int .i64 ix1,.slice A5 n5 c5,.slice A6 n6 c6,.slice A7 n7 c7] 39)=wb:=⟨_,rfl⟩
  have bw:=zG hwb
  have qb:=zQ hwb
  have HWB:=zH hwb
  have HS1:=zH ((HS.out.oth HOK.out hoa hCa).below HOK.out bw)
  have HPF:=zH (PfP.keep (fun b _ hlt=>bw.block b hlt) bw.size (fun _ _ h=>h) _ _ _ _ _ hpf)
  have HPZ:=zH hpz
  have HB:=zH hb
  have QB:=zH qb
  clear hwb bw qb hpf hpz hb hCa hoa CE d0
  go_upto_region 6 with fail
  rw [HWB.out]
  clear HWB
  cases bz with
  | false =>
   have HNR:Hid (¬r):=zH (fun h=>by have:=HB.out.2 ((drop_wks hlt).1 (HRR.out.1 h)).1;cases this)
   obtain ⟨s1,s2,s3,s4,h1,h2,h3,h4,⟨c0',c1',c2',c3'⟩,⟨t0,t1,t2,t3⟩,HQ,HZ⟩:=lpi_none HS1.out HOK.out O3.out G2.out hgl hgq HNR.out
   go_wp2_with fail
   refine bodyPost_ret (results_proof2 rfl _ _ _ _ _ _ _ rfl HQ.out) rfl ?_
   exact HZ.out
  | true =>
   obtain ⟨s3,e3,A',c',s4,s5,hrun,⟨d1,d2⟩,e5,hP5⟩:=HS1.out.push HOK.out HPF.out (by omega)
   have HRUN:=zH hrun
   have HN:=zH (lpi_next hlt HSZ.out HPZ.out hP5)
   have HG:Hid (r↔Lfc.Ods.wks W B (ps.drop (k+1))):=zH (HRR.out.trans ((drop_wks hlt).trans ⟨fun h=>h.2,fun h=>⟨HB.out.1 rfl,h⟩⟩))
   have z1:wb.cell? ⟨w2.heap.size,1,none⟩=some (.slice A1 k c1):=zC HS1.out.blk 1
   obtain ⟨y0,y1,y2,y3⟩:=cells4v QB.out
   clear hrun hP5 HPF HPZ
   go_wp2_with (at_builtin;refine wpList_append_run rfl _ _ 36 rfl _ _ _ _ rfl rfl HRUN.out ?_)
   go_roundw
   case rel=>exact ⟨k+1,by omega,by go_num,zH (⟨HN.out,HG.out⟩)⟩
   case measure=>simp [intOf];omega
 obtain rfl:k=ps.length:=by omega
 obtain ⟨⟨os,A1,c1,hS,hsz⟩,hr⟩:=HI.out
 have HS:=zH hS
 have HSZ:=zH hsz
 obtain ⟨z0,z1,z2,z3⟩:=cells4v hS.blk
 have HRR:=zH hr
 clear hS hsz hr HI
 obtain ⟨r1,r2,r3,r4,h1,h2,h3,h4,⟨c0',c1',c2',c3'⟩,⟨t0,t1,t2,t3⟩,HQ,HZ⟩:=lpi_fin (r:=r) (b:=true) HS.out HOK.out HSZ.out O3.out G2.out hgl hgq ⟨fun _=>HRR.out.2 (by rw [List.drop_length,Lfc.Ods.wks];trivial),fun _=>rfl⟩
 go_wp2_with fail
 refine bodyPost_ret (results_proof2 rfl _ _ _ _ _ _ _ rfl HQ.out) rfl ?_
 exact HZ.out
end Go.Proofs.YtadjpadieljjlaaGreat
namespace Lfc
def blk:Raw:=.node 0 [] 0 []
def chF (ks:List Int) (fs:List Fact) (ts us:List Raw) (m:Int) (i j:Nat):Prop:=chn ks fs (ts.getD i blk) (us.getD j blk) m
def chB (ks:List Int) (fs:List Fact) (ts us:List Raw) (i j:Nat):Prop:=chn ks fs (us.getD j blk) (ts.getD i blk) 1
end Lfc
namespace Go.Proofs.YtadjpadieljjlaaGreat
open Go.RowKit Go.Maps
theorem callFunc_enter {f : FuncId} {fn : Func} {c : Code} (hf : Tryz.prog.funcs[f]? = some fn) (hname : (fn.name == "runtime.NumGoroutine") = false) (hb : fn.body = some c) (xs : Array Value) (W : World) : (callFunc f xs).run Tryz.prog W = .ok (.enter f xs) W := by
 have h1 : ¬ fn.name = "runtime.NumGoroutine" := by simpa using hname
 simp [callFunc,hf,h1,hb]
theorem odsCan (Bx Mb:Nat) (F A0 L R:Option Addr) (f0 c0 cl cr:Nat) (fs:List Lfc.Fact) (ks:List Int) (ts us:List Lfc.Raw) (hks:ks.length≤1000000) (hfl:fs.length≤400) (hfz:∀f∈fs,f.l.size≤1000000∧f.r.size≤1000000) (hts:∀t∈ts,t.size≤1000000) (hus:∀t∈us,t.size≤1000000) (hnt:ts.length≤1000000) (hnu:us.length≤1000000) (m:Nat) (hm:m≤1000) :
  ∀ (p:Lfc.Ods) (v:Value) (w:World),p.size≤m→p.rng ts.length us.length→PvO w Bx Mb F A0 L R f0 c0 cl cr fs ks ts us→OdsP (fun b=>b≠Mb) w p v →
   Can ks fs Mb Bx (Lfc.chF ks fs ts us 2) (Lfc.chF ks fs ts us 1) (Lfc.chB ks fs ts us) w p v:=by
 induction m with
 | zero=>intro p v w h;have:=p.size_pos;omega
 | succ m ih0 =>
  have ih:=ih0 (by omega)
  intro p v w hsz hrg hP hv
  have parts:∀ (ps:List Lfc.Ods) (A:Option Addr),Lfc.Ods.sizes ps≤m→Lfc.Ods.rngs ts.length us.length ps→(ps≠[]→∃b o,A=some ⟨b,o,none⟩∧b<w.heap.size∧b≠Mb∧OdssP (fun b=>b≠Mb) w b ps o)→Cans ks fs Mb Bx (Lfc.chF ks fs ts us 2) (Lfc.chF ks fs ts us 1) (Lfc.chB ks fs ts us) w A ps:=fun ps A h1 h2 h3 i hi=>by
   obtain ⟨b,o,v,hA,hb,hM,hc,hp⟩:=OdsSl.at_ h3 hi
   exact ⟨b,o,v,hA,hb,hM,hc,ih _ v w (Nat.le_trans (Lfc.Ods.sizes_mem ps _ (List.getElem_mem _)) h1) (Lfc.Ods.rngs_mem ps _ h2 (List.getElem_mem _)) hP hp⟩
  cases p with
  | arg i j =>
   rw [OdsP] at hv
   rw [Lfc.Ods.rng] at hrg
   obtain ⟨hi,hj⟩:=hrg
   subst hv
   have ei:ts.getD i Lfc.blk=ts[i]:=by simp [List.getD,List.getElem?_eq_getElem hi]
   have ej:us.getD j Lfc.blk=us[j]:=by simp [List.getD,List.getElem?_eq_getElem hj]
   have hprv:∀ (w1:World) (q:Nat→Prop),Oth Mb w w1→Cache ks fs Mb q w1→(∀b,w1.heap.size≤b→q b)→(∀b,q b→b≠Mb)→∀rel r,RelIs (Lfc.chF ks fs ts us 2) (Lfc.chF ks fs ts us 1) (Lfc.chB ks fs ts us) (.arg i j) rel r →
     Calls Tryz.prog 158 #[.agg #[.int .i64 (i:Int),.int .i64 (j:Int)],.pointer (some ⟨Bx,0,none⟩),.int .i64 rel] w1 (PrvA ks fs Mb q w1 1 r):=fun w1 q ho hC hq hqM rel r hrel =>
    oArgP_any q Bx Mb i j F A0 L R f0 c0 cl cr fs ks ts us rel r w1 hks hfl hfz (hP.oth ho) hC hq hqM hi hj (hts _ (List.getElem_mem _)) (hus _ (List.getElem_mem _)) (by omega) (by omega) (by
     simp only [RelIs,Lfc.Ods.ls,Lfc.Ods.le,Lfc.Ods.eq,Lfc.chF,Lfc.chB,ei,ej] at hrel
     exact hrel)
   refine ⟨_,_,158,160,rfl,fun _ _=>by rfl,fun _ _=>by rfl,⟨callFunc_enter Tryz.func158 (by kernel_rfl) rfl,callFunc_enter Tryz.func160 (by kernel_rfl) rfl⟩,fun w1 q ho hC hq hqM=>⟨fun rel r hrel=>hprv w1 q ho hC hq hqM rel r hrel,?_⟩⟩
   refine oArgW_any q Bx Mb i j fs ks _ w1 hC.lt hC (fun W q' hW hC' h1 h2=>hprv W q' (ho.trans (Oth.of_below hW)) hC' h1 h2 2 _ (.inr (.inl ⟨rfl,?_⟩))) hq hqM
   simp only [Lfc.Ods.wk,Lfc.Ods.le]
  | lex ps =>
   rw [OdsP] at hv
   rw [Lfc.Ods.rng] at hrg
   rw [Lfc.Ods.size] at hsz
   obtain ⟨A,c,rfl,hc,h3⟩:=hv
   have hE:=parts ps A (by omega) hrg h3
   have hn:ps.length≤1000:=by have:=Lfc.Ods.sizes_len ps;omega
   refine ⟨_,_,151,153,rfl,fun _ _=>by rfl,fun _ _=>by rfl,⟨callFunc_enter Tryz.func151 (by kernel_rfl) rfl,callFunc_enter Tryz.func153 (by kernel_rfl) rfl⟩,fun w1 q ho hC hq hqM=>⟨fun rel r hrel=>?_,?_⟩⟩
   ·simp only [RelIs,Lfc.Ods.ls,Lfc.Ods.le,Lfc.Ods.eq] at hrel
    rcases hrel with ⟨rfl,hr⟩ | ⟨rfl,hr⟩ | ⟨rfl,hr⟩
    ·exact oLex1_any q _ _ _ Bx Mb ks fs ps A c w1 r (hE.oth ho) hn hC hq hqM hr
    ·exact oLex2_any q _ _ _ Bx Mb ks fs ps A c w1 r (hE.oth ho) hn hC hq hqM hr
    exact oLex3_any q _ _ _ Bx Mb ks fs ps A c w1 r (hE.oth ho) hn hC hq hqM hr
   exact oLexW_any q _ _ _ Bx Mb ks fs ps A c w1 _ (hE.oth ho) hn hC hq hqM (by simp only [Lfc.Ods.wk])
  | sim ps =>
   rw [OdsP] at hv
   rw [Lfc.Ods.rng] at hrg
   rw [Lfc.Ods.size] at hsz
   obtain ⟨A,c,rfl,hc,h3⟩:=hv
   have hE:=parts ps A (by omega) hrg h3
   have hn:ps.length≤1000:=by have:=Lfc.Ods.sizes_len ps;omega
   refine ⟨_,_,155,157,rfl,fun _ _=>by rfl,fun _ _=>by rfl,⟨callFunc_enter Tryz.func155 (by kernel_rfl) rfl,callFunc_enter Tryz.func157 (by kernel_rfl) rfl⟩,fun w1 q ho hC hq hqM=>⟨fun rel r hrel=>?_,?_⟩⟩
   ·simp only [RelIs,Lfc.Ods.ls,Lfc.Ods.le,Lfc.Ods.eq] at hrel
    rcases hrel with ⟨rfl,hr⟩ | ⟨rfl,hr⟩ | ⟨rfl,hr⟩
    ·exact oSim1_any q _ _ _ Bx Mb ks fs ps A c w1 r (hE.oth ho) hn hC hq hqM hr
    ·exact oSim2_any q _ _ _ Bx Mb ks fs ps A c w1 r (hE.oth ho) hn hC hq hqM hr
    exact oSim3_any q _ _ _ Bx Mb ks fs ps A c w1 r (hE.oth ho) hn hC hq hqM hr
   exact oSimW_any q _ _ _ Bx Mb ks fs ps A c w1 _ (hE.oth ho) hn hC hq hqM (by simp only [Lfc.Ods.wk])
end Go.Proofs.YtadjpadieljjlaaGreat
namespace Lfc
mutual
def odsOf:Ord→Ord→Ods
 | .node k a ps,.node _ a' ps'=>if k=2 then .lex (odsOfs ps ps') else if k=3 then .sim (odsOfs ps ps') else .arg a.toNat a'.toNat
def odsOfs:List Ord→List Ord→List Ods
 | a :: r,b :: r'=>odsOf a b :: odsOfs r r'
 | [],_=>[]
 | _ :: _,[]=>[]
end
theorem forms_atO:∀ (ps:List Ord),Ord.forms ps=true→∀ (i:Nat) (h:i<ps.length),ps[i].form=true
 | [],_,i,h=>by cases h
 | a :: r,h,i,hi=>by
  rw [Ord.forms,Bool.and_eq_true] at h
  cases i with
  | zero=>exact h.1
  | succ i=>exact forms_atO r h.2 i (by simpa using hi)
theorem rngs_atO (lo hi:Int):∀ (ps:List Ord),Ord.rngs lo hi ps=true→∀ (i:Nat) (h:i<ps.length),ps[i].rng lo hi=true
 | [],_,i,h=>by cases h
 | a :: r,h,i,hi'=>by
  rw [Ord.rngs,Bool.and_eq_true] at h
  cases i with
  | zero=>exact h.1
  | succ i=>exact rngs_atO lo hi r h.2 i (by simpa using hi')
theorem odsOfs_len:∀ (ps ps':List Ord),ps.length=ps'.length→(odsOfs ps ps').length=ps.length
 | [],_,_=>by simp [odsOfs]
 | a :: r,b :: r',h=>by simp [odsOfs,odsOfs_len r r' (by simpa using h)]
 | _ :: _,[],h=>by simp at h
theorem odsOfs_take:∀ (ps ps':List Ord) (k:Nat) (h:k<ps.length) (h':k<ps'.length),odsOfs (ps.take (k+1)) (ps'.take (k+1))=odsOfs (ps.take k) (ps'.take k)++[odsOf ps[k] ps'[k]]
 | [],_,_,h,_=>by cases h
 | _ :: _,[],_,_,h=>by cases h
 | a :: r,b :: r',0,_,_=>by simp [odsOfs]
 | a :: r,b :: r',k+1,h,h'=>by
  have:=odsOfs_take r r' k (by simpa using h) (by simpa using h')
  simp only [List.take_succ_cons,odsOfs,List.getElem_cons_succ,List.cons_append]
  rw [this]
end Lfc
namespace Go.Proofs.YtadjpadieljjlaaGreat
open Go.RowKit Go.Maps
theorem ordsInfo:(Tryz.prog.info? 87).map (fun i=>(i.zero,i.size,i.bytes))=some (some .nilIface,1,16):=by kernel_rfl
def BoI (w2:World) (os:List Lfc.Ods) (v:Value) (wr:World):Prop:=∃xs,wr.ownsRow w2.heap.size 87 1 v os.length xs∧ODRow (fun b=>w2.heap.size≤b∧v.ownBlock≠some b) wr os xs∧Below w2.heap.size w2 wr
theorem BoI.step {w2 wr w9 w10:World} {os:List Lfc.Ods} {v v' u:Value} {p:Lfc.Ods} {xs:List Value} {o:Obj} (hown:wr.ownsRow w2.heap.size 87 1 v os.length xs) (hrow:ODRow (fun b=>w2.heap.size≤b∧v.ownBlock≠some b) wr os xs) (hb:Below w2.heap.size w2 wr) (b9:Below wr.heap.size wr w9) (hp:OdsP (fun b=>wr.heap.size≤b) w9 p u)
  (hown':w10.ownsRow w2.heap.size 87 1 v' (os.length+1) (xs++[u])) (hg:(w9.alloc o).grownBy w10 v.ownBlock) (hloc:v'.ownBlock=v.ownBlock∨v'.ownBlock=some (w9.heap.size+1)):BoI w2 (os++[p]) v' w10:=by
 have hs9:=b9.size
 have hs10:w9.heap.size+1≤w10.heap.size:=by have:=hg.size;simpa using this
 have hs2:=hb.size
 have hlt:∀b,v.ownBlock=some b→w2.heap.size≤b∧b<wr.heap.size:=fun b e=>hown.lt b e
 have hold:∀b,v.ownBlock≠some b→b<w9.heap.size→w10.heap[b]?=w9.heap[b]?:=fun b hne hlt=>(hg.block b (by simp;omega) (fun e=>hne e.symm)).trans (zA _ _ _ hlt)
 have hne':∀b,b<w9.heap.size→v.ownBlock≠some b→v'.ownBlock≠some b:=fun b hlt hne e=>by
  rcases hloc with e2 | e2
  ·exact hne (e2 ▸ e)
  rw [e2] at e;have:=zO e;omega
 refine ⟨_,by rw [List.length_append];exact hown',ODRow.append (us:=[p]) (zs:=[u]) ⟨u,[],rfl,OdsP.keep (fun b hb2 hlt2=>?_) (by omega) (fun b hlt2 hb2=>?_) p u hp,rfl⟩ (hrow.keep (fun b hq hlt2=>(hold b hq.2 (by omega)).trans (b9.block b hlt2)) (by omega) (fun b hlt2 hq=>⟨hq.1,hne' b (by omega) hq.2⟩)),?_⟩
 ·have hb2:wr.heap.size≤b:=hb2
  exact hold b (fun e=>by have:=(hlt b e).2;omega) hlt2
 ·have hb2:wr.heap.size≤b:=hb2
  exact ⟨by omega,hne' b hlt2 (fun e=>by have:=(hlt b e).2;omega)⟩
 exact Below.grown ((hb.trans (b9.mono hs2)).alloc (by omega) o) hg (by simp;omega) (fun b e=>(hlt b e).1)
theorem BoI.fin {w2 wr:World} {os:List Lfc.Ods} {v:Value} (h:BoI w2 os v wr):∃A c,v=.slice A os.length c∧os.length≤c∧(os≠[]→∃b o,A=some ⟨b,o,none⟩∧b<wr.heap.size∧w2.heap.size≤b∧OdssP (fun b=>w2.heap.size≤b) wr b os o):=by
 obtain ⟨xs,hown,hrow,hb⟩:=h
 rcases hown.2 with ⟨rfl,e0⟩ | ⟨g,cap,cur,rfl,hbg,hg,hnc,_,_,_⟩
 ·have:os=[]:=List.length_eq_zero_iff.1 e0
  exact ⟨none,0,by rw [e0],by omega,fun h=>absurd this h⟩
 refine ⟨_,cap,rfl,hnc,fun _=>⟨g,0,rfl,zL hg,hbg,?_⟩⟩
 refine (ODRow.keep (fun _ _ _=>rfl) (zN _) (fun b _ hb=>hb.1) hrow).lie (fun j u hj=>?_)
 have:=hown.cells (g:=g) rfl j u hj
 rw [ocell_add] at this
 simpa using this
theorem oBoth_upto (m:Nat) (hmm:m≤1000) (hi1 hi2:Int):∀ (o o':Lfc.Ord) (v v':Value) (w:World),o.size≤m→o.shp o'=true→o.form=true→o'.form=true→o.rng 0 hi1=true→o'.rng 0 hi2=true→OrdV w o v→OrdV w o' v' →
  Calls Tryz.prog 36 #[v,v'] w fun e w'=>(∃T a,e=.returned (.iface T a)∧OdsP (fun b=>w.heap.size≤b) w' (Lfc.odsOf o o') (.iface T a))∧Below w.heap.size w w':=by
 induction m with
 | zero=>intro o o' v v' w h;have:=o.size_pos;omega
 | succ m ih0 =>
  intro o o' v v' w hm hsh hfo hfo' hr hr' hv hv'
  have ih:=ih0 (by omega)
  clear ih0
  obtain ⟨kd,ar,ts⟩:=o
  obtain ⟨kd',ar',us⟩:=o'
  rw [Lfc.Ord.shp,Bool.and_eq_true,decide_eq_true_eq] at hsh
  obtain ⟨rfl,hshs⟩:=hsh
  have hlen:=((Lfc.shps_spec ts us).1 hshs).1
  obtain ⟨A,c,rfl,hc,hA⟩:=hv.open_
  obtain ⟨A',c',rfl,hc',hA'⟩:=hv'.open_
  rw [←hlen]
  simp only [Lfc.Ord.size] at hm
  have hsl:=Lfc.Ord.sizes_len ts
  obtain ⟨n,hn⟩:∃n,ts.length=n:=⟨_,rfl⟩
  have hkd:(kd=1∧n=0∧0≤ar∧0≤ar')∨kd=2∨kd=3:=by
   rw [Lfc.Ord.form] at hfo
   rw [Lfc.Ord.rng] at hr hr'
   by_cases h1:kd=1
   ·rw [if_pos h1] at hfo hr hr'
    simp only [decide_eq_true_eq,Bool.and_eq_true] at hfo hr hr'
    exact .inl ⟨h1,by omega,hr.1,hr'.1⟩
   rw [if_neg h1] at hfo
   by_cases h2:kd=2∨kd=3
   ·exact .inr h2
   rw [if_neg h2] at hfo;cases hfo
  have hparts:kd≠1→(∀i (h:i<ts.length) (h':i<us.length),ts[i].shp us[i]=true∧ts[i].form=true∧us[i].form=true∧ts[i].rng 0 hi1=true∧us[i].rng 0 hi2=true):=fun h1 i h h'=>by
   rw [Lfc.Ord.form,if_neg h1] at hfo hfo'
   rw [Lfc.Ord.rng,if_neg h1] at hr hr'
   have h2:kd=2∨kd=3:=by rcases hkd with h | h | h <;> omega
   rw [if_pos h2] at hfo hfo'
   simp only [Bool.and_eq_true] at hfo hfo'
   exact ⟨((Lfc.shps_spec ts us).1 hshs).2 i h h',Lfc.forms_atO ts hfo.2 i h,Lfc.forms_atO us hfo'.2 i h',Lfc.rngs_atO 0 hi1 ts hr i h,Lfc.rngs_atO 0 hi2 us hr' i h'⟩
  have HPT:=zH hparts
  have IH:=zH ih
  obtain ⟨i0,hi,hz0,hz1,hz2⟩:=info_parts ordsInfo
  obtain ⟨w1,hw1⟩:∃w1,w.alloc (.cells #[.int .i64 kd,.int .i64 ar,.slice A n c] 26)=w1:=⟨_,rfl⟩
  obtain ⟨w2,hw2⟩:∃w2,w1.alloc (.cells #[.int .i64 kd,.int .i64 ar',.slice A' n c'] 26)=w2:=⟨_,rfl⟩
  have b1:=zG hw1
  have b2:=zG hw2
  have q1:=zQ hw1
  have q2:=zQ hw2
  have l1:=zL q1
  have l2:=zL q2
  have b02:Below w.heap.size w w2:=b1.trans (b2.mono (by omega))
  have s02:w.heap.size≤w2.heap.size:=by omega
  have Q1:=zH ((b2.block _ l1).trans q1)
  have Q2:=zH q2
  have B02:=zH b02
  have HA:=zH (hA.below b02)
  have HA':=zH (hA'.below b02)
  obtain ⟨y0,y1,y2⟩:=cells3o Q1.out
  obtain ⟨z0,z1,z2⟩:=cells3o Q2.out
  have I0:Hid (BoI w2 (Lfc.odsOfs (ts.take 0) (us.take 0)) (.slice none 0 0) w2):=zH (by
   rw [List.take_zero,List.take_zero,Lfc.odsOfs]
   exact ⟨[],World.ownsRow_nil w2 w2.heap.size _ 1,by rw [ODRow],zB _ _⟩)
  have HM:Hid (∀i (h:i<ts.length),ts[i].size≤m):=zH (fun i h=>by have:=Lfc.Ord.sizes_mem ts ts[i] (List.getElem_mem _);omega)
  have hnn:n≤1000:=by omega
  have HN:=zH hn
  have HLU:=zH hlen
  rw [hn]
  clear hA hA' hv hv' b1 b2 q1 q2 b02 hfo hfo' hr hr' hshs hparts ih hlen hn hm hsl hc hc'
  go_enter Tryz.func36,Tryz.ntmps36
  go_wp2_with fail
  go_loopw [5,10] (fun v i wr=>∃k:Nat,k≤n∧i=.int .i64 (k:Int)∧Hid (BoI w2 (Lfc.odsOfs (ts.take k) (us.take k)) v wr)) (fun _ i _=>n-(intOf i).toNat)
  case atStart=>exact ⟨0,by omega,rfl,I0⟩
  clear I0 hw1 hw2 y0 y1 y2 z0 z1 z2
  obtain ⟨k,hk,rfl,HI⟩:=hrel
  by_cases hlt:k<n
  ·have hkd1:kd≠1:=by rcases hkd with h | h | h <;> omega
   have hltT:k<ts.length:=by rw [HN.out];exact hlt
   have hltU:k<us.length:=by rw [←HLU.out];exact hltT
   obtain ⟨os,hos⟩:∃os,Lfc.odsOfs (ts.take k) (us.take k)=os:=⟨_,rfl⟩
   have hol:os.length=k:=by rw [←hos,Lfc.odsOfs_len _ _ (by simp;omega)];simp;omega
   have HTK:=zH (Lfc.odsOfs_take ts us k hltT hltU)
   rw [hos] at HI HTK
   obtain ⟨xs,hown,hrow,hbw⟩:=HI.out
   obtain ⟨b,o,k1,a1,ss,B,c1,rfl,hb,ht,d0,d1,d2,hcu,hB,hT⟩:=(HA.out.below hbw).at_ hltT
   obtain ⟨b',o',k2,a2,rr,B',c2,rfl,hb',ht',e0,e1,e2,hcu',hB',hT'⟩:=(HA'.out.below hbw).at_ hltU
   obtain ⟨y0,y1,y2⟩:=cells3o ((hbw.block _ (by omega)).trans Q1.out)
   obtain ⟨z0,z1,z2⟩:=cells3o ((hbw.block _ l2).trans Q2.out)
   have hi0:(0:Int)≤(k:Int):=Int.natCast_nonneg _
   have hi1':(k:Int)<(n:Int):=by omega
   obtain ⟨p1,p2,p3,p4,p5⟩:=HPT.out hkd1 k hltT hltU
   have hbd:=(zB wr.heap.size wr).drew
   have CA:=zH (IH.out ts[k] us[k] _ _ wr.drew (HM.out k hltT) p1 p2 p3 p4 p5 (hT.below hbd) (hT'.below hbd))
   have HROW:=zH hrow
   have HBW:=zH hbw
   rw [hol] at hown
   have HOWN:=zH hown
   have HOL:=zH hol
   have hlm:k+1≤maxLen:=by unfold maxLen;omega
   have hl16:(k+1)*16≤140737488355328:=by omega
   have hsw:=hbw.size
   have S0:Hid (∀W,Below wr.heap.size wr W→(W.cell? ⟨w.heap.size,2,none⟩=some (.slice (some ⟨b,o,none⟩) n c)∧W.cell? ⟨w1.heap.size,2,none⟩=some (.slice (some ⟨b',o',none⟩) n c'))∧(W.cell? ⟨b,o+k*3,none⟩=some (.int .i64 k1)∧W.cell? ⟨b,o+k*3+1,none⟩=some (.int .i64 a1)∧W.cell? ⟨b,o+k*3+2,none⟩=some (.slice B ss.length c1))∧(W.cell? ⟨b',o'+k*3,none⟩=some (.int .i64 k2)∧W.cell? ⟨b',o'+k*3+1,none⟩=some (.int .i64 a2)∧W.cell? ⟨b',o'+k*3+2,none⟩=some (.slice B' rr.length c2))):=zH (fun W hW=>⟨⟨(hW.cell (p:=⟨w.heap.size,2,none⟩) (by simp only;omega)).trans y2,(hW.cell (p:=⟨w1.heap.size,2,none⟩) (by simp only;omega)).trans z2⟩,⟨(hW.cell (p:=⟨b,_,none⟩) hb).trans d0,(hW.cell (p:=⟨b,_,none⟩) hb).trans d1,(hW.cell (p:=⟨b,_,none⟩) hb).trans d2⟩,⟨(hW.cell (p:=⟨b',_,none⟩) hb').trans e0,(hW.cell (p:=⟨b',_,none⟩) hb').trans e1,(hW.cell (p:=⟨b',_,none⟩) hb').trans e2⟩⟩)
   clear hown hrow hbw hT hT' hB hB' ht ht' HI hcu hcu' p1 p2 p3 p4 p5 hbd hol y0 y1 y2 z0 z1 z2
   obtain ⟨⟨v1,v2⟩,⟨v3,v4,v5⟩,⟨v6,v7,v8⟩⟩:=S0.out wr (zB _ _)
   clear S0
   go_upto_region 5 with fail
   go_region_law (first
    | (go_simp;go_at_call 36;refine CA.out.mono ?_;rintro e w9 ⟨⟨T9,a9,rfl,hp9⟩,b9'⟩;have b9:Below wr.heap.size wr w9:=(zB _ _).drew.trans b9';have hown9:=ownsRow_keep HOWN.out (fun g hg=>b9.block g (HOWN.out.lt g hg).2);have hs9:w2.heap.size≤w9.heap.size:=Nat.le_trans hsw b9.size)
    | (refine step_append_own_at _ (by rfl) _ _ 118 (by rfl) w2.heap.size 87 i0 .nilIface 1 16 Tryz.underlying118 hi hz0 hz1 hz2 rfl (by decide) _ _ _ (by rfl) (hown9.alloc _) ⟨w9.heap.size,0,none⟩ 1 1 [.iface T9 a9] (by rfl) (by rfl) (fun j u h=>ocells_new w9 _ rfl [.iface T9 a9] _ j u h) (fun u hu=>by simp at hu;subst hu;rfl) hlm hl16 (oalloc_le hs9) ?_;intro v' w10 hown10 hg10 hloc10))
   all_goals
    have HNX:Hid (BoI w2 (Lfc.odsOfs (ts.take (k+1)) (us.take (k+1))) v' w10):=zH (by
     rw [HTK.out]
     exact BoI.step (by rw [HOL.out];exact HOWN.out) HROW.out HBW.out b9 hp9 (by rw [HOL.out];exact hown10) hg10 (oalloc_loc hloc10))
    clear hown10 hg10 hloc10 hp9 b9 hown9
    go_wp2_with fail
    go_roundw
    case rel=>exact ⟨k+1,by omega,by go_num,HNX⟩
    case measure=>simp [intOf];omega
  obtain rfl:n=k:=by omega
  have hbw:Below w2.heap.size w2 wr:=by obtain ⟨xs,_,_,h⟩:=HI.out;exact h
  obtain ⟨y0,y1,y2⟩:=cells3o ((hbw.block _ (by omega)).trans Q1.out)
  obtain ⟨z0,z1,z2⟩:=cells3o ((hbw.block _ l2).trans Q2.out)
  have htl:ts.take n=ts:=by rw [←HN.out];exact List.take_length
  have hul:us.take n=us:=by rw [←HN.out,HLU.out];exact List.take_length
  have HB0:=zH (B02.out.trans (hbw.mono s02))
  rw [htl,hul] at HI
  obtain ⟨A9,c9,e9,hc9,hS9⟩:=HI.out.fin
  have hq9:∀b,b<wr.heap.size→w2.heap.size≤b→w.heap.size≤b:=fun b _ hb=>by omega
  have hos:(Lfc.odsOfs ts us).length=n:=by rw [Lfc.odsOfs_len _ _ HLU.out,HN.out]
  have HFIN:Hid (Lfc.odsOfs ts us≠[]→∃b o,A9=some ⟨b,o,none⟩∧b<wr.heap.size∧w.heap.size≤b∧OdssP (fun b=>w.heap.size≤b) wr b (Lfc.odsOfs ts us) o):=zH (fun hne=>by
   obtain ⟨b,o,hA,hb,hq,h⟩:=hS9 hne
   exact ⟨b,o,hA,hb,by omega,OdssP.keep (fun _ _ _=>rfl) (zN _) hq9 _ _ _ hb hq h⟩)
  have HOS:=zH hos
  have HC9:=zH hc9
  have HE9:=zH e9
  subst e9
  clear HI hS9 hbw htl hul hq9 hos hc9
  rcases hkd with ⟨rfl,rfl,ha,ha'⟩ | rfl | rfl
  ·have HZ:Hid ((∃T a,Ending.returned (.iface 123 (.agg #[.int .i64 ar,.int .i64 ar']))=.returned (.iface T a)∧OdsP (fun b=>w.heap.size≤b) wr (Lfc.odsOf (.node 1 ar ts) (.node 1 ar' us)) (.iface T a))∧Below w.heap.size w wr):=zH ⟨⟨_,_,rfl,by
    rw [Lfc.odsOf,if_neg (by decide),if_neg (by decide),OdsP,Int.toNat_of_nonneg ha,Int.toNat_of_nonneg ha']⟩,HB0.out⟩
   clear HFIN HOS HC9 HE9
   go_wp2_with fail
   go_ret
   exact HZ.out
  ·have HZ:Hid ((∃T a,Ending.returned (.iface 120 (.agg #[.slice A9 (Lfc.odsOfs ts us).length c9]))=.returned (.iface T a)∧OdsP (fun b=>w.heap.size≤b) wr (Lfc.odsOf (.node 2 ar ts) (.node 2 ar' us)) (.iface T a))∧Below w.heap.size w wr):=zH ⟨⟨_,_,rfl,by
    rw [Lfc.odsOf,if_pos rfl,OdsP];exact ⟨A9,c9,rfl,HC9.out,HFIN.out⟩⟩,HB0.out⟩
   clear HFIN HOS HC9 HE9
   go_wp2_with fail
   go_ret
   exact HZ.out
  have HZ:Hid ((∃T a,Ending.returned (.iface 121 (.agg #[.slice A9 (Lfc.odsOfs ts us).length c9]))=.returned (.iface T a)∧OdsP (fun b=>w.heap.size≤b) wr (Lfc.odsOf (.node 3 ar ts) (.node 3 ar' us)) (.iface T a))∧Below w.heap.size w wr):=zH ⟨⟨_,_,rfl,by
   rw [Lfc.odsOf,if_neg (by decide),if_pos rfl,OdsP];exact ⟨A9,c9,rfl,HC9.out,HFIN.out⟩⟩,HB0.out⟩
  clear HFIN HOS HC9 HE9
  go_wp2_with fail
  go_ret
  exact HZ.out
end Go.Proofs.YtadjpadieljjlaaGreat
