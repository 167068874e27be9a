/- Parts of the proof that no input makes the law false: OrAwk2. -/
import Derived.Test.YtadjpadieljjlaaGreatIvBA
set_option linter.unusedVariables false
set_option linter.unusedSimpArgs false
set_option maxRecDepth 100000
set_option maxHeartbeats 32000000
namespace Go.Proofs.YtadjpadieljjlaaGreat
open Go.RowKit Go.Maps
theorem aw_exp (g:Nat) (w:World) (h:w.heap[g]?=some (.cells #[.int .i64 4,S [113],.int .i64 0,.slice none 0 0,.int .i64 1,S [],.int .i64 0,.slice none 0 0] 51 (0,0))) :
  Calls Tryz.prog 31 #[.agg #[S [112],.int .i64 2,S [],.int .i64 0,.slice (some ⟨g,0,none⟩) 2 2,.int .i64 0],.agg #[.int .i64 1,.int .i64 1,.slice none 0 0]] w fun e w'=>(∃A c,e=.returned (.tuple #[.agg #[.int .i64 1,.int .i64 0,.slice A 0 c],.int .i64 0])∧OrdV w' (.node 1 0 []) (.agg #[.int .i64 1,.int .i64 0,.slice A 0 c]))∧Below w.heap.size w w':=by
 have hq:TreeV w (Lfc.piCh 0) (.agg #[.int .i64 1,S [],.int .i64 0,.slice none 0 0]):=TreeV.mk (ts:=[]) (by simp) (zN _) (fun h=>absurd rfl h)
 have hc:TreeV w (.node 4 [113] 0 []) (.agg #[.int .i64 4,S [113],.int .i64 0,.slice none 0 0]):=TreeV.mk (ts:=[]) (by simp) (zN _) (fun h=>absurd rfl h)
 have ht:TreeV w (Lfc.piCh 1) (.agg #[.int .i64 2,S [],.int .i64 0,.slice (some ⟨g,0,none⟩) 2 2]):=TreeV.mk (ts:=[.node 4 [113] 0 [],Lfc.piCh 0]) (by simp) (zN _) (fun _=>by
  obtain ⟨a0,a1,a2,a3,ea,ha⟩:=hc
  obtain ⟨b0,b1,b2,b3,eb,hb⟩:=hq
  cases ea
  cases eb
  refine ⟨g,0,rfl,zL h,?_⟩
  rw [TreesO,TreesO,TreesO]
  exact ⟨⟨_,_,_,_,zC h 0,zC h 1,zC h 2,zC h 3,ha⟩,⟨_,_,_,_,zC h 4,zC h 5,zC h 6,zC h 7,hb⟩,trivial⟩)
 have hE:(Lfc.Ord.node 1 1 []).expE 0 1=0:=by decide
 have hM:(Lfc.Ord.node 1 1 []).mv (0-1)=.node 1 0 []:=by rw [Lfc.Ord.mv];rfl
 have:=oExplicit_any (.node 1 1 []) _ 1 0 [112] 2 0 [] (some ⟨g,0,none⟩) 2 2 w (by rw [Lfc.Ord.size,Lfc.Ord.sizes];omega) (by decide) (by omega) (by omega) (by omega) (ord_arg w 1) ht
 refine this.mono ?_
 rintro e w' ⟨⟨v',rfl,hv⟩,hb⟩
 simp only [Int.natCast_one] at hv ⊢
 rw [if_pos hE,hM] at hv
 obtain ⟨A,c,rfl,hp⟩:=hv.open_
 refine ⟨⟨A,c,by rw [hE];rfl,?_⟩,hb⟩
 exact OrdVP.toV ⟨_,_,_,rfl,hp⟩
theorem oAwake_any (w:World):Calls Tryz.prog 10 #[] w fun e w'=>e=.returned (.bool true)∧Below w.heap.size w w':=by
 obtain ⟨w1,hw1⟩:∃w1,w.alloc (.cells #[.int .i64 5,S [],.int .i64 0,.slice none 0 0] 51)=w1:=⟨_,rfl⟩
 obtain ⟨w2,hw2⟩:∃w2,w1.alloc (.cells #[.int .i64 5,S [],.int .i64 0,.slice none 0 0] 51)=w2:=⟨_,rfl⟩
 obtain ⟨w3,hw3⟩:∃w3,w2.alloc (.cells #[.int .i64 4,S [115],.int .i64 0,.slice (some ⟨w1.heap.size,0,none⟩) 1 1] 51)=w3:=⟨_,rfl⟩
 obtain ⟨w4,hw4⟩:∃w4,w3.alloc (.cells #[.int .i64 1] 3)=w4:=⟨_,rfl⟩
 obtain ⟨w5,hw5⟩:∃w5,w4.alloc (.cells #[.int .i64 1,.int .i64 0,.slice none 0 0] 26)=w5:=⟨_,rfl⟩
 have al:∀ (W W':World) (o:Obj),W.alloc o=W'→Below W.heap.size W W'∧W'.heap[W.heap.size]?=some o∧W'.heap.size=W.heap.size+1:=fun W W' o h=>by
  subst h
  exact ⟨(zB _ _).alloc (zN _) _,zW _ _,by simp⟩
 have AL:=zH al
 obtain ⟨b1,q1,n1⟩:=al _ _ _ hw1
 obtain ⟨b2,q2,n2⟩:=al _ _ _ hw2
 obtain ⟨b3,q3,n3⟩:=al _ _ _ hw3
 obtain ⟨b4,q4,n4⟩:=al _ _ _ hw4
 obtain ⟨b5,q5,n5⟩:=al _ _ _ hw5
 have b35:Below w3.heap.size w3 w5:=b4.trans (b5.mono (by omega))
 have b25:Below w2.heap.size w2 w5:=b3.trans (b35.mono (by omega))
 have b15:Below w1.heap.size w1 w5:=b2.trans (b25.mono (by omega))
 have b05:Below w.heap.size w w5:=b1.trans (b15.mono (by omega))
 have Q1:=zH ((b15.block _ (by omega)).trans q1)
 have Q2:=zH ((b25.block _ (by omega)).trans q2)
 have Q3:=zH ((b35.block _ (by omega)).trans q3)
 have Q4:=zH ((b5.block _ (by omega)).trans q4)
 have Q5:=zH q5
 have B05:=zH b05
 have l1:w.heap.size<w5.heap.size:=by omega
 have l2:w1.heap.size<w5.heap.size:=by omega
 have l3:w2.heap.size<w5.heap.size:=by omega
 have l4:w3.heap.size<w5.heap.size:=by omega
 have l5:w4.heap.size<w5.heap.size:=by omega
 have NB:Hid (Below w.heap.size w w5∧w.heap.size≤w5.heap.size):=zH ⟨b05,by omega⟩
 have H1:=zH hw1
 have H3:=zH hw3
 have H5:=zH hw5
 have Y1:=cells4t q1
 have FO:Hid (∀W,Below w5.heap.size w5 W→W.cell? ⟨w4.heap.size,0,none⟩=some (.int .i64 1)∧W.cell? ⟨w4.heap.size,1,none⟩=some (.int .i64 0)∧W.cell? ⟨w4.heap.size,2,none⟩=some (.slice none 0 0)):=zH (fun W h=>cells3o ((h.block _ l5).trans Q5.out))
 have FX:Hid (∀W,Below w5.heap.size w5 W→W.cell? ⟨w.heap.size,0,none⟩=some (.int .i64 5)∧W.cell? ⟨w.heap.size,1,none⟩=some (S [])∧W.cell? ⟨w.heap.size,2,none⟩=some (.int .i64 0)∧W.cell? ⟨w.heap.size,3,none⟩=some (.slice none 0 0)):=zH (fun W h=>cells4t ((h.block _ l1).trans Q1.out))
 have FS:Hid (∀W,Below w5.heap.size w5 W→W.cell? ⟨w2.heap.size,0,none⟩=some (.int .i64 4)∧W.cell? ⟨w2.heap.size,1,none⟩=some (S [115])∧W.cell? ⟨w2.heap.size,2,none⟩=some (.int .i64 0)∧W.cell? ⟨w2.heap.size,3,none⟩=some (.slice (some ⟨w1.heap.size,0,none⟩) 1 1)):=zH (fun W h=>cells4t ((h.block _ l3).trans Q3.out))
 have VS:Hid (∀W,Below w5.heap.size w5 W→TreeV W Lfc.awS (.agg #[.int .i64 4,S [115],.int .i64 0,.slice (some ⟨w1.heap.size,0,none⟩) 1 1])):=zH (fun W h=>aws_v ((h.block _ l2).trans Q2.out))
 have VK:Hid (∀W,Below w5.heap.size w5 W→IntsO W (some ⟨w3.heap.size,0,none⟩) [1]):=zH (fun W h=>ints_one ((h.block _ l4).trans Q4.out))
 obtain ⟨y0,y1,y2,y3⟩:=Y1
 clear b1 b2 b3 b4 b5 b35 b25 b15 b05 q1 q2 q3 q4 q5 n1 n2 n3 n4 n5 al hw1 hw3 hw5
 have B0:Hid (Below w5.heap.size w5 w5):=zH (zB _ _)
 go_enter Tryz.func10,Tryz.ntmps10
 go_upto_region 2 with fail
 rw [H1.out]
 go_upto_region 3 with fail
 rw [H3.out]
 go_upto_region 5 with fail
 rw [H5.out]
 clear y0 y1 y2 y3 H1 H3 H5 hw2 hw4
 obtain ⟨wa0,hwa0⟩:∃wa,w5.alloc (.cells #[.int .i64 5,S [],.int .i64 0,.slice none 0 0] 51)=wa:=⟨_,rfl⟩
 obtain ⟨wb0,hwb0⟩:∃wb,wa0.alloc (.cells #[.int .i64 4,S [115],.int .i64 0,.slice (some ⟨w1.heap.size,0,none⟩) 1 1] 51)=wb:=⟨_,rfl⟩
 obtain ⟨ba,qa,na⟩:=AL.out _ _ _ hwa0
 obtain ⟨bb,qb,nb⟩:=AL.out _ _ _ hwb0
 have bA:=B0.out.trans (ba.mono B0.out.size)
 have bB:=bA.trans (bb.mono bA.size)
 obtain ⟨o0,o1,o2⟩:=FO.out _ B0.out
 obtain ⟨x0,x1,x2,x3⟩:=FX.out _ B0.out
 obtain ⟨r0,r1,r2⟩:=FO.out _ bA
 obtain ⟨z0,z1,z2,z3⟩:=FS.out _ bA
 have CH:=zH (aw_h1 w5.heap.size wa0.heap.size (some ⟨w3.heap.size,0,none⟩) wb0 (VK.out _ bB) (treesAt_new (ts:=[]) ((bb.block _ (by omega)).trans qa) (awx_v wb0)) (treesAt_new (ts:=[Lfc.awX]) qb (VS.out wb0 bB)))
 have BB:=zH bB
 clear ba qa na bb qb nb bA bB
 go_wp2_with fail
 refine CH.out.mono ?_
 rintro e v0 ⟨rfl,bc⟩
 have B1:=zH (BB.out.trans (bc.mono BB.out.size))
 clear bc CH BB hwa0 hwb0 o0 o1 o2 x0 x1 x2 x3 r0 r1 r2 z0 z1 z2 z3
 obtain ⟨wa1,hwa1⟩:∃wa,v0.alloc (.cells #[.int .i64 4,S [115],.int .i64 0,.slice (some ⟨w1.heap.size,0,none⟩) 1 1] 51)=wa:=⟨_,rfl⟩
 obtain ⟨wb1,hwb1⟩:∃wb,wa1.alloc (.cells #[.int .i64 5,S [],.int .i64 0,.slice none 0 0] 51)=wb:=⟨_,rfl⟩
 obtain ⟨ba,qa,na⟩:=AL.out _ _ _ hwa1
 obtain ⟨bb,qb,nb⟩:=AL.out _ _ _ hwb1
 have bA:=B1.out.trans (ba.mono B1.out.size)
 have bB:=bA.trans (bb.mono bA.size)
 obtain ⟨o0,o1,o2⟩:=FO.out _ B1.out
 obtain ⟨x0,x1,x2,x3⟩:=FS.out _ B1.out
 obtain ⟨r0,r1,r2⟩:=FO.out _ bA
 obtain ⟨z0,z1,z2,z3⟩:=FX.out _ bA
 have CH:=zH (aw_h2 v0.heap.size wa1.heap.size (some ⟨w3.heap.size,0,none⟩) wb1 (VK.out _ bB) (treesAt_new (ts:=[Lfc.awX]) ((bb.block _ (by omega)).trans qa) (VS.out wb1 bB)) (treesAt_new (ts:=[]) qb (awx_v wb1)))
 have BB:=zH bB
 clear ba qa na bb qb nb bA bB
 go_wp2_with fail
 refine CH.out.mono ?_
 rintro e v1 ⟨rfl,bc⟩
 have B2:=zH (BB.out.trans (bc.mono BB.out.size))
 clear bc CH BB hwa1 hwb1 o0 o1 o2 x0 x1 x2 x3 r0 r1 r2 z0 z1 z2 z3
 obtain ⟨x0,x1,x2,x3⟩:=FX.out _ B2.out
 obtain ⟨z0,z1,z2,z3⟩:=FS.out _ B2.out
 have CH:=zH (aw_path (some ⟨w3.heap.size,0,none⟩) v1 _ (VK.out _ B2.out) (VS.out _ B2.out))
 go_wp2_with fail
 refine CH.out.mono ?_
 rintro e v2 ⟨⟨Ap,cp,rfl⟩,bc⟩
 have B3:=zH (B2.out.trans (bc.mono B2.out.size))
 clear bc CH x0 x1 x2 x3 z0 z1 z2 z3
 obtain ⟨wa3,hwa3⟩:∃wa,v2.alloc (.cells #[.int .i64 5,S [],.int .i64 0,.slice none 0 0] 51)=wa:=⟨_,rfl⟩
 obtain ⟨wb3,hwb3⟩:∃wb,wa3.alloc (.cells #[.int .i64 4,S [115],.int .i64 0,.slice (some ⟨w1.heap.size,0,none⟩) 1 1] 51)=wb:=⟨_,rfl⟩
 obtain ⟨ba,qa,na⟩:=AL.out _ _ _ hwa3
 obtain ⟨bb,qb,nb⟩:=AL.out _ _ _ hwb3
 have bA:=B3.out.trans (ba.mono B3.out.size)
 have bB:=bA.trans (bb.mono bA.size)
 obtain ⟨o0,o1,o2⟩:=FO.out _ B3.out
 obtain ⟨x0,x1,x2,x3⟩:=FX.out _ B3.out
 obtain ⟨r0,r1,r2⟩:=FO.out _ bA
 obtain ⟨z0,z1,z2,z3⟩:=FS.out _ bA
 have CH:=zH (aw_p v2.heap.size wa3.heap.size (some ⟨w3.heap.size,0,none⟩) wb3 (VK.out _ bB) (treesAt_new (ts:=[]) ((bb.block _ (by omega)).trans qa) (awx_v wb3)) (treesAt_new (ts:=[Lfc.awX]) qb (VS.out wb3 bB)))
 have BB:=zH bB
 clear ba qa na bb qb nb bA bB
 go_wp2_with fail
 refine CH.out.mono ?_
 rintro e v3 ⟨⟨Al,cl,Bl,dl,rfl,hl⟩,bc⟩
 have B4:=zH (BB.out.trans (bc.mono BB.out.size))
 clear bc CH BB hwa3 hwb3 o0 o1 o2 x0 x1 x2 x3 r0 r1 r2 z0 z1 z2 z3
 obtain ⟨w8,hw8⟩:∃w8,v3.alloc (.cells #[.int .i64 0,.slice none 0 0,.slice Al 1 cl,.slice Bl 0 dl] 39)=w8:=⟨_,rfl⟩
 obtain ⟨w9,hw9⟩:∃w9,w8.alloc (.cells #[.int .i64 4,S [113],.int .i64 0,.slice none 0 0,.int .i64 1,S [],.int .i64 0,.slice none 0 0] 51)=w9:=⟨_,rfl⟩
 obtain ⟨wd,hwd⟩:∃wd,w9.alloc (.cells #[S [112],.int .i64 2,S [],.int .i64 0,.slice (some ⟨w8.heap.size,0,none⟩) 2 2,.int .i64 0] 75)=wd:=⟨_,rfl⟩
 obtain ⟨b8,q8,n8⟩:=AL.out _ _ _ hw8
 obtain ⟨b9,q9,n9⟩:=AL.out _ _ _ hw9
 obtain ⟨bd,qd,nd⟩:=AL.out _ _ _ hwd
 have HL:=zH hl
 have b3d:Below v3.heap.size v3 wd:=(b8.trans (b9.mono b8.size)).trans (bd.mono (Nat.le_trans b8.size b9.size))
 have BD:Hid (Below w5.heap.size w5 wd):=zH (B4.out.trans (b3d.mono B4.out.size))
 have QP:=zH (((b9.trans (bd.mono b9.size)).block _ (by omega)).trans q8)
 have QT:=zH ((bd.block _ (by omega)).trans q9)
 have l8:v3.heap.size<wd.heap.size:=by omega
 have L3D:=zH b3d
 have H8:=zH hw8
 have HD:=zH hwd
 obtain ⟨x0,x1,x2,x3,x4,x5⟩:=cells6d qd
 have CE:=zH (aw_exp w8.heap.size wd QT.out)
 clear hl hw8 hwd b8 q8 n8 b9 q9 n9 bd qd nd b3d
 go_upto_region 9 with fail
 rw [H8.out]
 go_upto_region 10 with fail
 rw [HD.out]
 clear hw9
 go_wp2_with fail
 refine CE.out.mono ?_
 rintro e v4 ⟨⟨Ae,ce,rfl,hoe⟩,bc⟩
 obtain ⟨wE,hwE⟩:∃wE,v4.alloc (.cells #[.int .i64 1,.int .i64 0,.slice Ae 0 ce] 26)=wE:=⟨_,rfl⟩
 obtain ⟨bE,qE,nE⟩:=AL.out _ _ _ hwE
 have hb4:=BD.out.trans (bc.mono BD.out.size)
 have hb5:=hb4.trans (bE.mono hb4.size)
 have hbd:=bc.trans (bE.mono bc.size)
 have HB5:=zH hb5
 have HOE:=zH (hoe.below bE)
 have QE:=zH qE
 have HLE:=zH ((HL.out.below L3D.out).below hbd)
 have QPE:=zH ((hbd.block _ l8).trans QP.out)
 have l9:v4.heap.size<wE.heap.size:=by omega
 have l10:v3.heap.size<wE.heap.size:=Nat.lt_of_lt_of_le l8 hbd.size
 have HE:=zH hwE
 have UP:Hid (∀W,Below wE.heap.size wE W→Below w.heap.size w W):=zH (fun W hb=>by
  have h5:=HB5.out.trans (hb.mono HB5.out.size)
  exact NB.out.1.trans (h5.mono NB.out.2))
 have UQ:∀W,Below wE.heap.size wE W→Below w5.heap.size w5 W:=fun W hb=>HB5.out.trans (hb.mono HB5.out.size)
 have SC:Hid (∀W,Below wE.heap.size wE W→(W.cell? ⟨w4.heap.size,0,none⟩=some (.int .i64 1)∧W.cell? ⟨w4.heap.size,1,none⟩=some (.int .i64 0)∧W.cell? ⟨w4.heap.size,2,none⟩=some (.slice none 0 0))∧(W.cell? ⟨w.heap.size,0,none⟩=some (.int .i64 5)∧W.cell? ⟨w.heap.size,1,none⟩=some (S [])∧W.cell? ⟨w.heap.size,2,none⟩=some (.int .i64 0)∧W.cell? ⟨w.heap.size,3,none⟩=some (.slice none 0 0))∧(W.cell? ⟨w2.heap.size,0,none⟩=some (.int .i64 4)∧W.cell? ⟨w2.heap.size,1,none⟩=some (S [115])∧W.cell? ⟨w2.heap.size,2,none⟩=some (.int .i64 0)∧W.cell? ⟨w2.heap.size,3,none⟩=some (.slice (some ⟨w1.heap.size,0,none⟩) 1 1))∧(W.cell? ⟨v3.heap.size,0,none⟩=some (.int .i64 0)∧W.cell? ⟨v3.heap.size,1,none⟩=some (.slice none 0 0)∧W.cell? ⟨v3.heap.size,2,none⟩=some (.slice Al 1 cl)∧W.cell? ⟨v3.heap.size,3,none⟩=some (.slice Bl 0 dl))∧(W.cell? ⟨v4.heap.size,0,none⟩=some (.int .i64 1)∧W.cell? ⟨v4.heap.size,1,none⟩=some (.int .i64 0)∧W.cell? ⟨v4.heap.size,2,none⟩=some (.slice Ae 0 ce))):=zH (fun W hb=>⟨FO.out W (UQ W hb),FX.out W (UQ W hb),FS.out W (UQ W hb),cells4t ((hb.block _ l10).trans QPE.out),cells3o ((hb.block _ l9).trans QE.out)⟩)
 have BV:Hid (∀W,Below wE.heap.size wE W→LinksP (fun b=>wb3.heap.size≤b) W Al [⟨1,Lfc.awS,[0],0⟩]):=zH (fun W hb=>HLE.out.below hb)
 have CF1:Hid (∀W,Below wE.heap.size wE W→∀ {g:Nat},IntsO W (some ⟨g,0,none⟩) [0]→Calls Tryz.prog 32 #[.agg #[.int .i64 5,S [],.int .i64 0,.slice none 0 0],.agg #[.int .i64 4,S [115],.int .i64 0,.slice (some ⟨w1.heap.size,0,none⟩) 1 1],.slice (some ⟨g,0,none⟩) 1 1,.slice (some ⟨w3.heap.size,0,none⟩) 1 1] W fun e w'=>e=.returned (.bool true)∧Below W.heap.size W w'):=zH (fun W hb g hi=>aw_f [0] true (some ⟨w3.heap.size,0,none⟩) (some ⟨g,0,none⟩) 1 W _ (by simp) Lfc.aw_fits (VK.out _ (UQ _ hb)) hi (VS.out _ (UQ _ hb)))
 have CF2:Hid (∀W,Below wE.heap.size wE W→Calls Tryz.prog 32 #[.agg #[.int .i64 5,S [],.int .i64 0,.slice none 0 0],.agg #[.int .i64 4,S [115],.int .i64 0,.slice (some ⟨w1.heap.size,0,none⟩) 1 1],.slice none 0 0,.slice (some ⟨w3.heap.size,0,none⟩) 1 1] W fun e w'=>e=.returned (.bool false)∧Below W.heap.size W w'):=zH (fun W hb=>aw_f [] false (some ⟨w3.heap.size,0,none⟩) none 0 W _ (by simp) Lfc.aw_fits2 (VK.out _ (UQ _ hb)) (fun h=>absurd rfl h) (VS.out _ (UQ _ hb)))
 have CV1:Hid (∀W,Below wE.heap.size wE W→Calls Tryz.prog 33 #[.agg #[.int .i64 1,.int .i64 0,.slice none 0 0],.int .i64 1] W fun e w'=>e=.returned (.int .i64 0)∧Below W.heap.size W w'):=zH (fun W hb=>aw_val 1 0 W (by omega) (by decide))
 have CV0:Hid (∀W,Below wE.heap.size wE W→Calls Tryz.prog 33 #[.agg #[.int .i64 1,.int .i64 0,.slice none 0 0],.int .i64 0] W fun e w'=>e=.returned (.int .i64 5)∧Below W.heap.size W w'):=zH (fun W hb=>aw_val 0 5 W (by omega) (by decide))
 have CS:Hid (∀W,Below wE.heap.size wE W→Calls Tryz.prog 34 #[.agg #[.int .i64 1,.int .i64 0,.slice none 0 0],.agg #[.int .i64 1,.int .i64 0,.slice Ae 0 ce]] W fun e w'=>e=.returned (.bool true)∧Below W.heap.size W w'):=zH (fun W hb=>aw_shp Ae ce W (HOE.out.below hb))
 obtain ⟨wa,hwa⟩:∃wa,wE.alloc (.cells #[.int .i64 5,S [],.int .i64 0,.slice none 0 0] 51)=wa:=⟨_,rfl⟩
 obtain ⟨wb,hwb⟩:∃wb,wa.alloc (.cells #[.int .i64 4,S [115],.int .i64 0,.slice (some ⟨w1.heap.size,0,none⟩) 1 1] 51)=wb:=⟨_,rfl⟩
 obtain ⟨ba,qa,na⟩:=AL.out _ _ _ hwa
 obtain ⟨bb,qb,nb⟩:=AL.out _ _ _ hwb
 have bA:Below wE.heap.size wE wa:=ba
 have bB:=bA.trans (bb.mono bA.size)
 have CH:=zH (aw_v _ Al Bl cl dl wE.heap.size wa.heap.size (some ⟨w3.heap.size,0,none⟩) wb (VK.out _ (UQ _ bB)) (treesAt_new (ts:=[]) ((bb.block _ (by omega)).trans qa) (awx_v wb)) (treesAt_new (ts:=[Lfc.awX]) qb (VS.out _ (UQ _ bB))) (BV.out _ bB))
 obtain ⟨⟨o0,o1,o2⟩,⟨y0,y1,y2,y3⟩,_⟩:=SC.out _ (zB _ _)
 obtain ⟨⟨r0,r1,r2⟩,_,⟨z0,z1,z2,z3⟩,_⟩:=SC.out _ bA
 obtain ⟨_,_,_,⟨p0,p1,p2,p3⟩,_⟩:=SC.out _ bB
 have BB:=zH bB
 clear hwE bE qE nE hb4 hb5 hbd bc hoe x0 x1 x2 x3 x4 x5 CE UQ l1 l2 l3 l4 l5 l8 l9 l10 FO FX FS VS VK HL HLE QP QPE QT QE HOE L3D BD B0 B1 B2 B3 B4 NB B05 Q1 Q2 Q3 Q4 Q5 AL H8 HD HB5 ba qa na bb qb nb bA bB
 go_upto_region 11 with fail
 rw [HE.out]
 clear HE
 go_wp2_with fail
 refine CH.out.mono ?_
 rintro e u0 ⟨rfl,bc0⟩
 have e0:=BB.out.trans (bc0.mono BB.out.size)
 obtain ⟨uz,huz⟩:∃uz,u0.alloc (.cells #[.int .i64 0] 3)=uz:=⟨_,rfl⟩
 have bz:=zG huz
 have ez:=e0.trans (bz.mono e0.size)
 have CH1:=zH (CF1.out _ ez (g:=u0.heap.size) (ints_one (by rw [←huz];exact zW _ _)))
 have EZ:=zH ez
 clear o0 o1 o2 y0 y1 y2 y3 r0 r1 r2 z0 z1 z2 z3 p0 p1 p2 p3 hwa hwb CH BB bc0
 obtain ⟨_,⟨y0,y1,y2,y3⟩,⟨z0,z1,z2,z3⟩,_⟩:=SC.out _ e0
 clear e0 bz ez
 go_wp2_with fail
 refine CH1.out.mono ?_
 rintro e u1 ⟨rfl,bc1⟩
 have e1:=zH (EZ.out.trans (bc1.mono EZ.out.size))
 clear y0 y1 y2 y3 z0 z1 z2 z3 bc1 EZ huz CH1
 obtain ⟨_,⟨y0,y1,y2,y3⟩,⟨z0,z1,z2,z3⟩,_⟩:=SC.out _ e1.out
 go_wp2_with fail
 refine (CF2.out _ e1.out).mono ?_
 rintro e u2 ⟨rfl,bc1⟩
 have e2:=zH (e1.out.trans (bc1.mono e1.out.size))
 clear y0 y1 y2 y3 z0 z1 z2 z3 bc1
 obtain ⟨⟨o0,o1,o2⟩,_,_,_,⟨r0,r1,r2⟩⟩:=SC.out _ e2.out
 go_wp2_with fail
 refine (CV1.out _ e2.out).mono ?_
 rintro e u3 ⟨rfl,bc1⟩
 have e3:=zH (e2.out.trans (bc1.mono e2.out.size))
 clear o0 o1 o2 r0 r1 r2 bc1
 obtain ⟨⟨o0,o1,o2⟩,_,_,_,⟨r0,r1,r2⟩⟩:=SC.out _ e3.out
 go_wp2_with fail
 refine (CV0.out _ e3.out).mono ?_
 rintro e u4 ⟨rfl,bc1⟩
 have e4:=zH (e3.out.trans (bc1.mono e3.out.size))
 clear o0 o1 o2 r0 r1 r2 bc1
 obtain ⟨⟨o0,o1,o2⟩,_,_,_,⟨r0,r1,r2⟩⟩:=SC.out _ e4.out
 go_wp2_with fail
 refine (CS.out _ e4.out).mono ?_
 rintro e u5 ⟨rfl,bc1⟩
 have e5:=zH (e4.out.trans (bc1.mono e4.out.size))
 clear o0 o1 o2 r0 r1 r2 bc1
 go_wp2_with fail
 go_ret
 exact ⟨rfl,UP.out _ e5.out⟩
end Go.Proofs.YtadjpadieljjlaaGreat
