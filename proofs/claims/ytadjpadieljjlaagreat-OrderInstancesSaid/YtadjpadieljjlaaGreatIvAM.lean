/- Parts of the proof that no input makes the law false: OcArgP, OcLex. -/
import Derived.Test.YtadjpadieljjlaaGreatIvAL
set_option linter.unusedVariables false
set_option linter.unusedSimpArgs false
set_option maxRecDepth 100000
set_option maxHeartbeats 32000000
namespace Go.Proofs.YtadjpadieljjlaaGreat
open Go.RowKit Go.Maps
theorem treesP_at {q:Nat→Prop} {w:World} {b:Nat}:∀ (ts:List Lfc.Raw) (o i:Nat) (h:i<ts.length),TreesP q w b ts o→∃v0 v1 v2 v3,w.cell? ⟨b,o+i*4,none⟩=some v0∧w.cell? ⟨b,o+i*4+1,none⟩=some v1∧w.cell? ⟨b,o+i*4+2,none⟩=some v2∧w.cell? ⟨b,o+i*4+3,none⟩=some v3∧TreeP q w ts[i] v0 v1 v2 v3
 | [],_,_,h,_=>by cases h
 | p :: r,o,i,hi,h=>by
  rw [TreesP] at h
  cases i with
  | zero=>simpa using h.1
  | succ i =>
   have:=treesP_at r (o+4) i (by simpa using hi) h.2
   rw [show o+(i+1)*4=o+4+i*4 by omega]
   exact this
theorem treesAtP_at {q:Nat→Prop} {w:World} {A:Option Addr} {ts:List Lfc.Raw} (h:TreesAtP q w A ts) {i:Nat} (hi:i<ts.length) :
  ∃b o k n p us B c,A=some ⟨b,o,none⟩∧b<w.heap.size∧w.cell? ⟨b,o+i*4,none⟩=some (.int .i64 k)∧w.cell? ⟨b,o+i*4+1,none⟩=some (S n)∧w.cell? ⟨b,o+i*4+2,none⟩=some (.int .i64 p)∧w.cell? ⟨b,o+i*4+3,none⟩=some (.slice B (List.length us) c)∧TreeVP q w ts[i] (.agg #[.int .i64 k,S n,.int .i64 p,.slice B (List.length us) c])∧(us:List Lfc.Raw)=us:=by
 obtain ⟨b,o,hA,hlt,hqb,hts⟩:=h (by intro h0;rw [h0] at hi;simp at hi)
 obtain ⟨v0,v1,v2,v3,h0,h1,h2,h3,hP⟩:=treesP_at ts o i hi hts
 cases ht:ts[i] with
 | node k n p us =>
  have hP':=hP
  rw [ht,TreeP] at hP
  obtain ⟨rfl,rfl,_,rfl,B,c,rfl,_⟩:=hP
  exact ⟨b,o,k,n,p,us,B,c,hA,hlt,h0,h1,h2,h3,⟨_,_,_,_,rfl,by rw [←ht];exact hP'⟩,rfl⟩
def TwoT (w2:World) (k1 p1 k2 p2:Int) (n1 n2:List UInt8) (x y c1 c2:Nat) (B B':Option Addr) (a b:Value) (wx:World):Prop:=∃ga gb,a=.pointer (some ⟨ga,0,none⟩)∧b=.pointer (some ⟨gb,0,none⟩)∧(w2.heap.size≤ga∧w2.heap.size≤gb)∧Below w2.heap.size w2 wx ∧
 wx.heap[ga]?=some (.cells #[.int .i64 k1,S n1,.int .i64 p1,.slice B x c1] 51 (0,0))∧wx.heap[gb]?=some (.cells #[.int .i64 k2,S n2,.int .i64 p2,.slice B' y c2] 51 (0,0))
theorem cells4v {W:World} {g:Nat} {v0 v1 v2 v3:Value} {t:TypeId} (h:W.heap[g]?=some (.cells #[v0,v1,v2,v3] t (0,0))):W.cell? ⟨g,0,none⟩=some v0∧W.cell? ⟨g,1,none⟩=some v1∧W.cell? ⟨g,2,none⟩=some v2∧W.cell? ⟨g,3,none⟩=some v3 :=
 ⟨zC h 0,zC h 1,zC h 2,zC h 3⟩
theorem pf_chain {q:Nat→Prop} {w:World} {A A2:Option Addr} {n c n2 c2:Nat} (h:LkO q w A n c) (hn:n≤5000) (h2:LkO q w A2 n2 c2) (hn2:n2≤5000):PfP q w (.node []) (.int .i64 0) (.slice none 0 0) (.slice A n c) (.slice A2 n2 c2):=by
 rw [PfP]
 exact ⟨⟨0,rfl⟩,⟨none,0,rfl,zN _,fun h=>absurd rfl h⟩,⟨A,n,c,rfl,hn,h⟩,⟨A2,n2,c2,rfl,hn2,h2⟩⟩
theorem oArgP_any (q:Nat→Prop) (Bx Mb i j:Nat) (F A0 L R:Option Addr) (f0 c0 cl cr:Nat) (fs:List Lfc.Fact) (ks:List Int) (ts us:List Lfc.Raw) (rel:Int) (r:Prop) (w:World) (hks:ks.length≤1000000) (hfl:fs.length≤400) (hfz:∀f∈fs,f.l.size≤1000000∧f.r.size≤1000000)
  (hP:PvO w Bx Mb F A0 L R f0 c0 cl cr fs ks ts us) (hC:Cache ks fs Mb q w) (hq:∀b,w.heap.size≤b→q b) (hqM:∀b,q b→b≠Mb) (hi:i<ts.length) (hj:j<us.length) (hsi:ts[i].size≤1000000) (hsj:us[j].size≤1000000) (hil:i≤1000000) (hjl:j≤1000000)
  (hrel:(rel=1∧(r↔Lfc.chn ks fs ts[i] us[j] 2))∨(rel=2∧(r↔Lfc.chn ks fs ts[i] us[j] 1))∨(rel=3∧(r↔Lfc.chn ks fs ts[i] us[j] 1∧Lfc.chn ks fs us[j] ts[i] 1))) :
  Calls Tryz.prog 158 #[.agg #[.int .i64 (i:Int),.int .i64 (j:Int)],.pointer (some ⟨Bx,0,none⟩),.int .i64 rel] w (PrvA ks fs Mb q w 1 r):=by
 obtain ⟨b,o,k1,n1,p1,xs,B,c1,rfl,hb,d0,d1,d2,d3,hT,_⟩:=treesAtP_at hP.ts hi
 obtain ⟨b',o',k2,n2,p2,ys,B',c2,rfl,hb',e0,e1,e2,e3,hT',_⟩:=treesAtP_at hP.us hj
 obtain ⟨t,hT0⟩:∃t,ts[i]=t:=⟨_,rfl⟩
 obtain ⟨u,hU0⟩:∃u,us[j]=u:=⟨_,rfl⟩
 rw [hT0] at hsi hT hrel
 rw [hU0] at hsj hT' hrel
 have HP:=zH hP
 have HT:=zH hT
 have HT':=zH hT'
 obtain ⟨nts,hnts⟩:∃n,ts.length=n:=⟨_,rfl⟩
 obtain ⟨nus,hnus⟩:∃n,us.length=n:=⟨_,rfl⟩
 obtain ⟨w1,hw1⟩:∃w1,w.alloc (.cells #[.int .i64 (i:Int),.int .i64 (j:Int)] 123)=w1:=⟨_,rfl⟩
 obtain ⟨w2,hw2⟩:∃w2,w1.alloc (.cells #[.int .i64 0,.slice none 0 0,.slice none 0 0,.slice none 0 0] 39)=w2:=⟨_,rfl⟩
 have b1:=zG hw1
 have b2:=zG hw2
 have q1:=zQ hw1
 have q2:=zQ hw2
 have l1:=zL q1
 have l2:=zL q2
 have b02:Below w.heap.size w w2:=b1.trans (b2.mono (by omega))
 have B02:=zH b02
 have s02:w.heap.size≤w2.heap.size:=by omega
 have Q2:=zH q2
 obtain ⟨y0,y1⟩:=cells2e ((b2.block _ l1).trans q1)
 have hMb:=hC.lt
 have hgl:w.heap.size≤w1.heap.size:=by omega
 have hgM:w1.heap.size≠Mb:=by omega
 have hp2:=hP.oth (Oth.of_below b02)
 have x2:=hp2.left
 have x3:=hp2.right
 rw [hnts] at x2 hi
 rw [hnus] at x3 hj
 have f0':=(b02.cell (p:=⟨b,o+i*4,none⟩) hb).trans d0
 have f1':=(b02.cell (p:=⟨b,o+i*4+1,none⟩) hb).trans d1
 have f2':=(b02.cell (p:=⟨b,o+i*4+2,none⟩) hb).trans d2
 have f3':=(b02.cell (p:=⟨b,o+i*4+3,none⟩) hb).trans d3
 have g0':=(b02.cell (p:=⟨b',o'+j*4,none⟩) hb').trans e0
 have g1':=(b02.cell (p:=⟨b',o'+j*4+1,none⟩) hb').trans e1
 have g2':=(b02.cell (p:=⟨b',o'+j*4+2,none⟩) hb').trans e2
 have g3':=(b02.cell (p:=⟨b',o'+j*4+3,none⟩) hb').trans e3
 have SX:Hid ((w2.cell? ⟨Bx,2,none⟩=some (.slice (some ⟨b,o,none⟩) nts cl)∧w2.cell? ⟨Bx,3,none⟩=some (.slice (some ⟨b',o',none⟩) nus cr))∧(w2.cell? ⟨w.heap.size,0,none⟩=some (.int .i64 (i:Int))∧w2.cell? ⟨w.heap.size,1,none⟩=some (.int .i64 (j:Int)))∧(w2.cell? ⟨b,o+i*4,none⟩=some (.int .i64 k1)∧w2.cell? ⟨b,o+i*4+1,none⟩=some (S n1)∧w2.cell? ⟨b,o+i*4+2,none⟩=some (.int .i64 p1)∧w2.cell? ⟨b,o+i*4+3,none⟩=some (.slice B xs.length c1))∧(w2.cell? ⟨b',o'+j*4,none⟩=some (.int .i64 k2)∧w2.cell? ⟨b',o'+j*4+1,none⟩=some (S n2)∧w2.cell? ⟨b',o'+j*4+2,none⟩=some (.int .i64 p2)∧w2.cell? ⟨b',o'+j*4+3,none⟩=some (.slice B' ys.length c2))):=zH ⟨⟨x2,x3⟩,⟨y0,y1⟩,⟨f0',f1',f2',f3'⟩,⟨g0',g1',g2',g3'⟩⟩
 have m1:=World.new_ne w2 _ x2
 have m2:=World.new_ne w2 _ y0
 have m3:=World.new_ne w2 _ f0'
 have m4:=World.new_ne w2 _ g0'
 simp only at m1 m2 m3 m4
 have hi0:(0:Int)≤(i:Int):=Int.natCast_nonneg _
 have hi1:(i:Int)<(nts:Int):=by omega
 have hj0:(0:Int)≤(j:Int):=Int.natCast_nonneg _
 have hj1:(j:Int)<(nus:Int):=by omega
 have HC0:=zH hC
 have CHN:Hid (∀ (q1:Nat→Prop) (W:World) (m:Int),Oth Mb w W→Cache ks fs Mb q1 W→(∀b,W.heap.size≤b→q1 b)→(∀b,q1 b→b≠Mb)→Calls Tryz.prog 161 #[.pointer (some ⟨Bx,0,none⟩),.agg #[.int .i64 k1,S n1,.int .i64 p1,.slice B xs.length c1],.agg #[.int .i64 k2,S n2,.int .i64 p2,.slice B' ys.length c2],.int .i64 m] W (ChnAns ks fs Mb q1 W (Lfc.chn ks fs t u m))):=zH (fun q1 W m ho hc h1 h2=>oChain_any q1 Bx Mb F A0 _ _ f0 c0 cl cr fs ks ts us m t u _ _ W hks hfl hfz hsi hsj (HP.out.oth ho) hc h1 h2 (HT.out.oth ho) (HT'.out.oth ho))
 have CHB:Hid (∀ (q1:Nat→Prop) (W:World) (m:Int),Oth Mb w W→Cache ks fs Mb q1 W→(∀b,W.heap.size≤b→q1 b)→(∀b,q1 b→b≠Mb)→Calls Tryz.prog 161 #[.pointer (some ⟨Bx,0,none⟩),.agg #[.int .i64 k2,S n2,.int .i64 p2,.slice B' ys.length c2],.agg #[.int .i64 k1,S n1,.int .i64 p1,.slice B xs.length c1],.int .i64 m] W (ChnAns ks fs Mb q1 W (Lfc.chn ks fs u t m))):=zH (fun q1 W m ho hc h1 h2=>oChain_any q1 Bx Mb F A0 _ _ f0 c0 cl cr fs ks ts us m u t _ _ W hks hfl hfz hsj hsi (HP.out.oth ho) hc h1 h2 (HT'.out.oth ho) (HT.out.oth ho))
 have HQS:=zH hq
 have HQM:=zH hqM
 clear hT hT' hP hp2 q1 q2 b1 b2 b02 d0 d1 d2 d3 e0 e1 e2 e3 hT0 hU0 hnts hnus hC hq hqM hfz
 go_enter Tryz.func158,Tryz.ntmps158
 go_upto_region 1 with fail
 clear hw1 hw2
 go_cut [8,9] (fun a b wx=>Hid (TwoT w2 k1 p1 k2 p2 n1 n2 xs.length ys.length c1 c2 B B' a b wx))
 case first =>
  go_region_held3 (fun W=>(W.cell? ⟨Bx,2,none⟩=some (.slice (some ⟨b,o,none⟩) nts cl)∧W.cell? ⟨Bx,3,none⟩=some (.slice (some ⟨b',o',none⟩) nus cr))∧(W.cell? ⟨w.heap.size,0,none⟩=some (.int .i64 (i:Int))∧W.cell? ⟨w.heap.size,1,none⟩=some (.int .i64 (j:Int)))∧(W.cell? ⟨b,o+i*4,none⟩=some (.int .i64 k1)∧W.cell? ⟨b,o+i*4+1,none⟩=some (S n1)∧W.cell? ⟨b,o+i*4+2,none⟩=some (.int .i64 p1)∧W.cell? ⟨b,o+i*4+3,none⟩=some (.slice B xs.length c1))∧(W.cell? ⟨b',o'+j*4,none⟩=some (.int .i64 k2)∧W.cell? ⟨b',o'+j*4+1,none⟩=some (S n2)∧W.cell? ⟨b',o'+j*4+2,none⟩=some (.int .i64 p2)∧W.cell? ⟨b',o'+j*4+3,none⟩=some (.slice B' ys.length c2)))
   (first | exact SX.out | go_keep)
   (fail)
  ·obtain ⟨w5,hw5⟩:∃w5,((w2.alloc (.cells #[.int .i64 k1,S n1,.int .i64 p1,.slice B xs.length c1] 51)).alloc (.cells #[.int .i64 k2,S n2,.int .i64 p2,.slice B' ys.length c2] 51)).drew=w5:=⟨_,rfl⟩
   rw [hw5]
   have b5:Below w2.heap.size w2 w5:=by rw [←hw5];exact (((zB _ _).alloc (zN _) _).alloc (by simp) _).drew
   have qa:w5.heap[w2.heap.size]?=some (.cells #[.int .i64 k1,S n1,.int .i64 p1,.slice B xs.length c1] 51 (0,0)):=by
    rw [←hw5]
    exact (Below.heap_alloc _ _ _ (by simp)).trans (zW _ _)
   have qb:w5.heap[w2.heap.size+1]?=some (.cells #[.int .i64 k2,S n2,.int .i64 p2,.slice B' ys.length c2] 51 (0,0)):=by
    rw [←hw5]
    exact two_alloc _ _ _
   have HR:Hid (TwoT w2 k1 p1 k2 p2 n1 n2 xs.length ys.length c1 c2 B B' (.pointer (some ⟨w2.heap.size,0,none⟩)) (.pointer (some ⟨w2.heap.size+1,0,none⟩)) w5):=zH ⟨w2.heap.size,w2.heap.size+1,rfl,rfl,⟨by omega,by omega⟩,b5,qa,qb⟩
   clear hw5 qa qb b5
   go_wp2_with fail
   go_meet
   exact HR
  obtain ⟨w5,hw5⟩:∃w5,((w2.alloc (.cells #[.int .i64 k2,S n2,.int .i64 p2,.slice B' ys.length c2] 51)).alloc (.cells #[.int .i64 k1,S n1,.int .i64 p1,.slice B xs.length c1] 51)).drew=w5:=⟨_,rfl⟩
  rw [hw5]
  have b5:Below w2.heap.size w2 w5:=by rw [←hw5];exact (((zB _ _).alloc (zN _) _).alloc (by simp) _).drew
  have qa:w5.heap[w2.heap.size]?=some (.cells #[.int .i64 k2,S n2,.int .i64 p2,.slice B' ys.length c2] 51 (0,0)):=by
   rw [←hw5]
   exact (Below.heap_alloc _ _ _ (by simp)).trans (zW _ _)
  have qb:w5.heap[w2.heap.size+1]?=some (.cells #[.int .i64 k1,S n1,.int .i64 p1,.slice B xs.length c1] 51 (0,0)):=by
   rw [←hw5]
   exact two_alloc _ _ _
  have HR:Hid (TwoT w2 k1 p1 k2 p2 n1 n2 xs.length ys.length c1 c2 B B' (.pointer (some ⟨w2.heap.size+1,0,none⟩)) (.pointer (some ⟨w2.heap.size,0,none⟩)) w5):=zH ⟨w2.heap.size+1,w2.heap.size,rfl,rfl,⟨by omega,by omega⟩,b5,qb,qa⟩
  clear hw5 qa qb b5
  go_wp2_with fail
  go_meet
  exact HR
 obtain ⟨ga,gb,rfl,rfl,⟨lga,lgb⟩,bc,qa,qb⟩:=hcut.out
 clear hcut SX m1 m2 m3 m4 x2 x3 y0 y1 f0' f1' f2' f3' g0' g1' g2' g3'
 obtain ⟨w5,hw5⟩:∃w5,w5=wc:=⟨_,rfl⟩
 subst hw5
 have s5:=bc.size
 have l6:w1.heap.size<w5.heap.size:=by omega
 have b05:=B02.out.trans (bc.mono s02)
 have BW:Hid (Oth Mb w w5):=zH (Oth.of_below b05)
 have HG:=zH ((bc.block _ l2).trans Q2.out)
 have C5:Hid (Cache ks fs Mb (fun b=>q b∧b≠w1.heap.size) w5):=zH ((HC0.out.keep (q':=fun b=>q b∧b≠w1.heap.size) (row:=none) ⟨rfl,rfl,rfl,zN _,fun _ _ _=>rfl⟩ (fun e=>by cases e) (fun _ _ _ e=>by cases e) (fun b hb hq=>⟨hq,by omega⟩)).below b05)
 have NEW:Hid (∀W:World,w5.heap.size≤W.heap.size→∀b,W.heap.size≤b→q b∧b≠w1.heap.size):=zH (fun W hW b hb=>⟨HQS.out b (by omega),by omega⟩)
 have NEM:Hid (∀b,q b∧b≠w1.heap.size→b≠Mb):=zH (fun b hb=>HQM.out b hb.1)
 obtain ⟨y0,y1,y2,y3⟩:=cells4v qa
 obtain ⟨z0,z1,z2,z3⟩:=cells4v qb
 have QA:=zH qa
 have QB:=zH qb
 have la:=zL qa
 have lb:=zL qb
 have hMw:Mb<w.heap.size:=hMb
 have hga:ga≠Mb:=by omega
 have hgb:gb≠Mb:=by omega
 clear bc b05 qa qb
 rcases hrel with ⟨rfl,hr⟩ | ⟨rfl,hr⟩ | ⟨rfl,hr⟩
 ·have CH:=zH (CHN.out _ w5 2 BW.out C5.out (NEW.out w5 (zN _)) NEM.out)
  have HRR:=zH hr
  clear hr CHN CHB
  go_wp2_with fail
  refine CH.out.mono ?_
  rintro e w6 ⟨⟨A6,n6,c6,bb,rfl,hl6,hn6,hb6⟩,hC6,ho6⟩
  have s6:=ho6.size
  have hgr:=(ho6.block _ l6 (fun e=>hgM (zO e))).trans HG.out
  have n56:n6≤5000:=by omega
  obtain ⟨s1,s2,s3,s4,h1,h2,h3,h4,⟨c0',c1',c2',c3'⟩,⟨t0,t1,t2,t3⟩,HQ,HZ⟩:=prv_fin (q:=q) (w:=w) (N:=1) (r:=r) (b:=bb) hgr (pf_chain hl6 n56 (LkO.nil (A:=none) (c:=0)) (Nat.zero_le _)) (by simp [Lfc.Pf.size,Lfc.Pf.sizes]) hC6 (BW.out.trans ho6) hgl hgM (hb6.trans HRR.out.symm)
  clear hgr hl6 hC6 ho6 hb6 CH y0 y1 y2 y3 z0 z1 z2 z3
  cases bb with
  | true =>
   go_wp2_with fail
   refine bodyPost_ret (results_proof2 rfl _ _ _ _ _ _ _ rfl HQ.out) rfl ?_
   exact HZ.out
  | false =>
   go_wp2_with fail
   refine bodyPost_ret (results_proof2 rfl _ _ _ _ _ _ _ rfl HQ.out) rfl ?_
   exact HZ.out
 ·have CH:=zH (CHN.out _ w5 1 BW.out C5.out (NEW.out w5 (zN _)) NEM.out)
  have HRR:=zH hr
  clear hr CHN CHB
  go_wp2_with fail
  refine CH.out.mono ?_
  rintro e w6 ⟨⟨A6,n6,c6,bb,rfl,hl6,hn6,hb6⟩,hC6,ho6⟩
  have s6:=ho6.size
  have hgr:=(ho6.block _ l6 (fun e=>hgM (zO e))).trans HG.out
  have n56:n6≤5000:=by omega
  obtain ⟨s1,s2,s3,s4,h1,h2,h3,h4,⟨c0',c1',c2',c3'⟩,⟨t0,t1,t2,t3⟩,HQ,HZ⟩:=prv_fin (q:=q) (w:=w) (N:=1) (r:=r) (b:=bb) hgr (pf_chain hl6 n56 (LkO.nil (A:=none) (c:=0)) (Nat.zero_le _)) (by simp [Lfc.Pf.size,Lfc.Pf.sizes]) hC6 (BW.out.trans ho6) hgl hgM (hb6.trans HRR.out.symm)
  clear hgr hl6 hC6 ho6 hb6 CH y0 y1 y2 y3 z0 z1 z2 z3
  cases bb with
  | true =>
   go_wp2_with fail
   refine bodyPost_ret (results_proof2 rfl _ _ _ _ _ _ _ rfl HQ.out) rfl ?_
   exact HZ.out
  | false =>
   go_wp2_with fail
   refine bodyPost_ret (results_proof2 rfl _ _ _ _ _ _ _ rfl HQ.out) rfl ?_
   exact HZ.out
 have CH:=zH (CHN.out _ w5 1 BW.out C5.out (NEW.out w5 (zN _)) NEM.out)
 have HRR:=zH hr
 clear hr CHN
 go_wp2_with fail
 refine CH.out.mono ?_
 rintro e w6 ⟨⟨A6,n6,c6,bb,rfl,hl6,hn6,hb6⟩,hC6,ho6⟩
 have s6:=ho6.size
 have n56:n6≤5000:=by omega
 clear CH y0 y1 y2 y3 z0 z1 z2 z3
 cases bb with
 | false =>
  have hgr:=(ho6.block _ l6 (fun e=>hgM (zO e))).trans HG.out
  obtain ⟨s1,s2,s3,s4,h1,h2,h3,h4,⟨c0',c1',c2',c3'⟩,⟨t0,t1,t2,t3⟩,HQ,HZ⟩:=prv_fin (q:=q) (w:=w) (N:=1) (r:=r) (b:=false) hgr (pf_chain hl6 n56 (LkO.nil (A:=none) (c:=0)) (Nat.zero_le _)) (by simp [Lfc.Pf.size,Lfc.Pf.sizes]) hC6 (BW.out.trans ho6) hgl hgM ⟨fun h=>(by cases h),fun h=>by have:=hb6.2 (HRR.out.1 h).1;cases this⟩
  clear hgr hl6 hC6 ho6 hb6
  go_wp2_with fail
  refine bodyPost_ret (results_proof2 rfl _ _ _ _ _ _ _ rfl HQ.out) rfl ?_
  exact HZ.out
 | true =>
  obtain ⟨y0,y1,y2,y3⟩:=cells4v ((ho6.block _ la (fun e=>hga (zO e))).trans QA.out)
  obtain ⟨z0,z1,z2,z3⟩:=cells4v ((ho6.block _ lb (fun e=>hgb (zO e))).trans QB.out)
  have CB:=zH (CHB.out _ w6 1 (BW.out.trans ho6) hC6 (NEW.out w6 s6) NEM.out)
  have HL6:=zH hl6
  have HO6:=zH ho6
  have HB6:=zH hb6
  clear hl6 hC6 ho6 hb6 CHB
  go_wp2_with fail
  refine CB.out.mono ?_
  rintro e w7 ⟨⟨A7,n7,c7,bb,rfl,hl7,hn7,hb7⟩,hC7,ho7⟩
  have s7:=ho7.size
  have n57:n7≤5000:=by omega
  have ho57:=HO6.out.trans ho7
  have hgr:=(ho57.block _ l6 (fun e=>hgM (zO e))).trans HG.out
  have hl67:LkO (fun b=>q b∧b≠w1.heap.size) w7 A6 n6 c6:=HL6.out.keep (fun b hb hlt=>ho7.block b hlt (fun e=>NEM.out b hb (zO e))) s7 (fun _ _ h=>h)
  obtain ⟨s1,s2,s3,s4,h1,h2,h3,h4,⟨c0',c1',c2',c3'⟩,⟨t0,t1,t2,t3⟩,HQ,HZ⟩:=prv_fin (q:=q) (w:=w) (N:=1) (r:=r) (b:=bb) hgr (pf_chain hl67 n56 hl7 n57) (by simp [Lfc.Pf.size,Lfc.Pf.sizes]) hC7 (BW.out.trans ho57) hgl hgM ⟨fun h=>HRR.out.2 ⟨HB6.out.1 (by simp),hb7.1 h⟩,fun h=>hb7.2 (HRR.out.1 h).2⟩
  clear hgr hl7 hC7 ho7 hb7 ho57 hl67 y0 y1 y2 y3 z0 z1 z2 z3 CB
  go_wp2_with fail
  refine bodyPost_ret (results_proof2 rfl _ _ _ _ _ _ _ rfl HQ.out) rfl ?_
  exact HZ.out
theorem oArgW_any (q:Nat→Prop) (Bx Mb i j:Nat) (fs:List Lfc.Fact) (ks:List Int) (r:Prop) (w:World) (hMb:Mb<w.heap.size) (hC:Cache ks fs Mb q w)
  (hp:∀W (q':Nat→Prop),Below w.heap.size w W→Cache ks fs Mb q' W→(∀b,W.heap.size≤b→q' b)→(∀b,q' b→b≠Mb)→Calls Tryz.prog 158 #[.agg #[.int .i64 (i:Int),.int .i64 (j:Int)],.pointer (some ⟨Bx,0,none⟩),.int .i64 2] W (PrvA ks fs Mb q' W 1 r)) (hq:∀b,w.heap.size≤b→q b) (hqM:∀b,q b→b≠Mb) :
  Calls Tryz.prog 160 #[.agg #[.int .i64 (i:Int),.int .i64 (j:Int)],.pointer (some ⟨Bx,0,none⟩)] w (PrvA ks fs Mb q w 1 r):=by
 obtain ⟨w1,hw1⟩:∃w1,w.alloc (.cells #[.int .i64 (i:Int),.int .i64 (j:Int)] 123)=w1:=⟨_,rfl⟩
 obtain ⟨w2,hw2⟩:∃w2,w1.alloc (.cells #[.int .i64 0,.slice none 0 0,.slice none 0 0,.slice none 0 0] 39)=w2:=⟨_,rfl⟩
 have b1:=zG hw1
 have b2:=zG hw2
 have q1:=zQ hw1
 have q2:=zQ hw2
 have l1:=zL q1
 have l2:=zL q2
 have b02:Below w.heap.size w w2:=b1.trans (b2.mono (by omega))
 obtain ⟨y0,y1⟩:=cells2e ((b2.block _ l1).trans q1)
 have hgl:w.heap.size≤w1.heap.size:=by omega
 have hgM:w1.heap.size≠Mb:=by omega
 have CP:=zH (hp w2 (fun b=>q b∧b≠w1.heap.size) b02 ((hC.keep (q':=fun b=>q b∧b≠w1.heap.size) (row:=none) ⟨rfl,rfl,rfl,zN _,fun _ _ _=>rfl⟩ (fun e=>by cases e) (fun _ _ _ e=>by cases e) (fun b hb hq=>⟨hq,by omega⟩)).below b02) (fun b hb=>⟨hq b (by omega),by omega⟩) (fun b hb=>hqM b hb.1))
 have B02:=zH b02
 have Q2:=zH q2
 clear hp hC hq hqM b1 b2 q1 q2 b02
 go_enter Tryz.func160,Tryz.ntmps160
 go_wp2_with fail
 refine CP.out.mono ?_
 rintro e w6 ⟨⟨pf,ix,A,A1,A2,n,n1,n2,c,c1,c2,bb,rfl,hpf,hsz,hb⟩,hC6,ho6⟩
 obtain ⟨s1,s2,s3,s4,h1,h2,h3,h4,⟨c0',c1',c2',c3'⟩,⟨t0,t1,t2,t3⟩,HQ,HZ⟩:=prv_fin (q:=q) (w:=w) (N:=1) (r:=r) (b:=bb) ((ho6.block _ l2 (fun e=>hgM (zO e))).trans Q2.out) hpf hsz hC6 ((Oth.of_below B02.out).trans ho6) hgl hgM hb
 clear hpf hC6 ho6 hb CP y0 y1 hw1 hw2
 go_wp2_with fail
 refine bodyPost_ret (results_proof2 rfl _ _ _ _ _ _ _ rfl HQ.out) rfl ?_
 exact HZ.out
end Go.Proofs.YtadjpadieljjlaaGreat
namespace Go.Proofs.YtadjpadieljjlaaGreat
open Go.RowKit Go.Maps
theorem oLex3_any (q:Nat→Prop) (L W B:Nat→Nat→Prop) (Bx Mb:Nat) (ks:List Int) (fs:List Lfc.Fact) (ps:List Lfc.Ods) (A:Option Addr) (c:Nat) (w:World) (r:Prop) (hE:Cans ks fs Mb Bx L W B w A ps) (hn:ps.length≤1000) (hC:Cache ks fs Mb q w) (hq:∀b,w.heap.size≤b→q b) (hqM:∀b,q b→b≠Mb) (hr0:r↔Lfc.Ods.eqs W B ps) :
  Calls Tryz.prog 151 #[.agg #[.slice A ps.length c],.pointer (some ⟨Bx,0,none⟩),.int .i64 3] w (PrvA ks fs Mb q w (Lfc.Ods.sizes ps+1) r):=by
 obtain ⟨w1,hw1⟩:∃w1,w.alloc (.cells #[.slice A ps.length c] 120)=w1:=⟨_,rfl⟩
 obtain ⟨w2,hw2⟩:∃w2,w1.alloc (.cells #[.int .i64 0,.slice none 0 0,.slice none 0 0,.slice none 0 0] 39)=w2:=⟨_,rfl⟩
 have b1:=zG hw1
 have b2:=zG hw2
 have q1:=zQ hw1
 have q2:=zQ hw2
 have l1:=zL q1
 have l2:=zL q2
 have b02:Below w.heap.size w w2:=b1.trans (b2.mono (by omega))
 have hMb:=hC.lt
 have hgM:w1.heap.size≠Mb:=by omega
 have hgl:w.heap.size≤w1.heap.size:=by omega
 have Q1:=zH ((b2.block _ l1).trans q1)
 have Q2:=zH q2
 have y0:w2.cell? ⟨w.heap.size,0,none⟩=some (.slice A ps.length c):=zC Q1.out 0
 have C2:Hid (Cache ks fs Mb (fun b=>q b∧b≠w1.heap.size) w2):=zH ((hC.weak (q':=fun b=>q b∧b≠w1.heap.size) (fun b hb hq=>⟨hq,by omega⟩)).below b02)
 have B02:=zH b02
 have HE:=zH hE
 have HQ0:=zH hq
 have HQM:=zH hqM
 have s02:w.heap.size≤w2.heap.size:=by omega
 have HR0:=zH hr0
 obtain ⟨w3,hw3⟩:∃w3,w2.alloc (.cells #[.int .i64 0,.slice none 0 0,.slice none 0 0,.slice none 0 0] 39)=w3:=⟨_,rfl⟩
 obtain ⟨b3,l3,hok,hI0⟩:=lp_init (ps:=ps) (ix:=0) hw3 l2 (by omega) hgM HQM.out HQ0.out s02 C2.out
 have HOK:=zH hok
 have I0:=zH hI0
 have O3:Hid (Oth Mb w w3):=zH ((Oth.of_below B02.out).trans (Oth.of_below b3))
 have G1:Hid (w3.heap[w.heap.size]?=some (.cells #[.slice A ps.length c] 120 (0,0))):=zH ((b3.block _ (by omega)).trans Q1.out)
 have G2:Hid (w3.heap[w1.heap.size]?=some (.cells #[.int .i64 0,.slice none 0 0,.slice none 0 0,.slice none 0 0] 39 (0,0))):=zH ((b3.block _ (by omega)).trans Q2.out)
 have TOT:Hid (∀os n ix A' c' W,PSt ks fs q w2.heap.size w1.heap.size Mb w3 os n ix A' c' W→Oth Mb w W∧W.cell? ⟨w.heap.size,0,none⟩=some (.slice A ps.length c)∧w3.heap.size≤W.heap.size):=zH (fun os n ix A' c' W h=>⟨h.othw O3.out s02,(zC (lpi_stay h G1.out (by omega) (by omega)) 0).trans rfl,h.frame.size⟩)
 have hgq:w.heap.size≤w2.heap.size:=s02
 have hne0:w.heap.size≠w2.heap.size:=by omega
 clear b3 hok hI0
 clear b1 b2 q1 q2 b02 hE hC hq hqM hr0
 have y0':w3.cell? ⟨w.heap.size,0,none⟩=some (.slice A ps.length c):=(zC G1.out 0).trans rfl
 go_enter Tryz.func151,Tryz.ntmps151
 go_wp2_with fail
 go_loopw [30] (fun i wr=>∃k:Nat,k≤ps.length∧i=.int .i64 (k:Int)∧Hid (LpI ks fs q w2.heap.size w1.heap.size Mb w3 ps k 0 wr∧(r↔Lfc.Ods.eqs W B (ps.drop k)))) (fun i _=>ps.length-(intOf i).toNat)
 case atStart=>exact ⟨0,by omega,rfl,zH ⟨I0.out,by rw [List.drop_zero];exact HR0.out⟩⟩
 clear I0 hw3 y0 y0' hw1 hw2
 obtain ⟨k,hk,rfl,HI⟩:=hrel
 by_cases hlt:k<ps.length
 ·obtain ⟨⟨os,A1,c1,hS,hsz⟩,hr⟩:=HI.out
  obtain ⟨b,o,v,rfl,hb0,hbM,hcl,T,a,f,g,rfl,hme,hmw,⟨hcf,hcg⟩,hcan⟩:=HE.out k hlt
  have d0:=((TOT.out _ _ _ _ _ _ hS).1.cell (p:=⟨b,o+k,none⟩) hb0 hbM).trans hcl
  have HS:=zH hS
  have HSZ:=zH hsz
  have HRR:=zH hr
  have HLT:=zH hlt
  have hi0:(0:Int)≤(k:Int):=Int.natCast_nonneg _
  have hi1:(k:Int)<(ps.length:Int):=by omega
  clear hmw hcg hcl hb0 hbM
  have hSb:=hS
  have CE:=zH ((hcan wr (PQ q w2.heap.size w1.heap.size (.slice A1 k c1)) (TOT.out _ _ _ _ _ _ hSb).1 hSb.cache (hSb.qnew HOK.out) (hSb.qM HOK.out)).1 3 _ (.inr (.inr ⟨rfl,Iff.rfl⟩)))
  go_wp2_with fail
  refine CE.out.mono ?_
  rintro e wa ⟨⟨pf,ix1,A5,A6,A7,n5,n6,n7,c5,c6,c7,bz,rfl,hpf,hpz,hb⟩,hCa,hoa⟩
  obtain ⟨wb,hwb⟩:∃wb,wa.alloc (.cells #[.int .i64 ix1,.slice A5 n5 c5,.slice A6 n6 c6,.slice A7 n7 c7] 39)=wb:=⟨_,rfl⟩
  have bw:=zG hwb
  have qb:=zQ hwb
  have HWB:=zH hwb
  have HSb:=zH ((hSb.oth HOK.out hoa hCa).below HOK.out bw)
  have HPF:=zH (PfP.keep (fun b _ hlt=>bw.block b hlt) bw.size (fun _ _ h=>h) _ _ _ _ _ hpf)
  have HPZ:=zH hpz
  have HB:=zH hb
  have QB:=zH qb
  clear hwb bw qb hpf hpz hb hCa hoa CE
  clear d0 hcan hS hsz hr HI hSb
  go_upto_region 16 with fail
  rw [HWB.out]
  clear HWB
  cases bz with
  | false =>
   have HNR:Hid (¬r):=zH (fun h=>by have:=HB.out.2 ((fun h=>((drop_eqs hlt).1 (HRR.out.1 h)).1) h);cases this)
   obtain ⟨s1,s2,s3,s4,h1,h2,h3,h4,⟨c0',c1',c2',c3'⟩,⟨t0,t1,t2,t3⟩,HQ,HZ⟩:=lpi_none HSb.out HOK.out O3.out G2.out hgl hgq HNR.out
   go_wp2_with fail
   refine bodyPost_ret (results_proof2 rfl _ _ _ _ _ _ _ rfl HQ.out) rfl ?_
   exact HZ.out
  | true =>
   obtain ⟨s3,e3,A',c',s4,s5,hrun,⟨d1,d2⟩,e5,hP5⟩:=HSb.out.push HOK.out HPF.out (by omega)
   have HRUN:=zH hrun
   have HN:Hid (LpI ks fs q w2.heap.size w1.heap.size Mb w3 ps (k+1) 0 s5∧(r↔Lfc.Ods.eqs W B (ps.drop (k+1)))):=zH ⟨lpi_next hlt HSZ.out HPZ.out hP5,(fun he=>⟨fun h=>((drop_eqs hlt).1 (HRR.out.1 h)).2,fun h=>HRR.out.2 ((drop_eqs hlt).2 ⟨he,h⟩)⟩) (HB.out.1 rfl)⟩
   have z1:wb.cell? ⟨w2.heap.size,1,none⟩=some (.slice A1 k c1):=zC HSb.out.blk 1
   obtain ⟨y0,y1,y2,y3⟩:=cells4v QB.out
   clear hrun hP5 HSb HPF HPZ HB QB
   go_wp2_with (at_builtin;refine wpList_append_run rfl _ _ 36 rfl _ _ _ _ rfl rfl HRUN.out ?_)
   go_roundw
   case rel=>exact ⟨k+1,by omega,by go_num,HN⟩
   case measure=>simp [intOf];omega
 obtain rfl:k=ps.length:=by omega
 obtain ⟨⟨os,A1,c1,hS,hsz⟩,hr⟩:=HI.out
 obtain ⟨s5,e5,⟨d1,d2⟩,hS5⟩:=hS.setIx HOK.out (ps.length:Int)
 have HS5:=zH hS5
 have HSZ:=zH hsz
 have HRR:=zH hr
 have y0:=(TOT.out _ _ _ _ _ _ hS).2.1
 clear hS hS5 hsz hr HI
 go_upto_region 21 with fail
 clear y0 d1 d2 e5
 obtain ⟨z0,z1,z2,z3⟩:=cells4v HS5.out.blk
 obtain ⟨r1,r2,r3,r4,h1,h2,h3,h4,⟨c0',c1',c2',c3'⟩,⟨t0,t1,t2,t3⟩,HQ,HZ⟩:=lpi_fin (r:=r) (b:=true) HS5.out HOK.out HSZ.out O3.out G2.out hgl hgq ⟨fun _=>HRR.out.2 (by rw [List.drop_length,Lfc.Ods.eqs];trivial),fun _=>rfl⟩
 go_wp2_with fail
 refine bodyPost_ret (results_proof2 rfl _ _ _ _ _ _ _ rfl HQ.out) rfl ?_
 exact HZ.out
theorem oLex1_any (q:Nat→Prop) (L W B:Nat→Nat→Prop) (Bx Mb:Nat) (ks:List Int) (fs:List Lfc.Fact) (ps:List Lfc.Ods) (A:Option Addr) (c:Nat) (w:World) (r:Prop) (hE:Cans ks fs Mb Bx L W B w A ps) (hn:ps.length≤1000) (hC:Cache ks fs Mb q w) (hq:∀b,w.heap.size≤b→q b) (hqM:∀b,q b→b≠Mb) (hr0:r↔Lfc.Ods.lexL L W B ps) :
  Calls Tryz.prog 151 #[.agg #[.slice A ps.length c],.pointer (some ⟨Bx,0,none⟩),.int .i64 1] w (PrvA ks fs Mb q w (Lfc.Ods.sizes ps+1) r):=by
 obtain ⟨w1,hw1⟩:∃w1,w.alloc (.cells #[.slice A ps.length c] 120)=w1:=⟨_,rfl⟩
 obtain ⟨w2,hw2⟩:∃w2,w1.alloc (.cells #[.int .i64 0,.slice none 0 0,.slice none 0 0,.slice none 0 0] 39)=w2:=⟨_,rfl⟩
 have b1:=zG hw1
 have b2:=zG hw2
 have q1:=zQ hw1
 have q2:=zQ hw2
 have l1:=zL q1
 have l2:=zL q2
 have b02:Below w.heap.size w w2:=b1.trans (b2.mono (by omega))
 have hMb:=hC.lt
 have hgM:w1.heap.size≠Mb:=by omega
 have hgl:w.heap.size≤w1.heap.size:=by omega
 have Q1:=zH ((b2.block _ l1).trans q1)
 have Q2:=zH q2
 have y0:w2.cell? ⟨w.heap.size,0,none⟩=some (.slice A ps.length c):=zC Q1.out 0
 have C2:Hid (Cache ks fs Mb (fun b=>q b∧b≠w1.heap.size) w2):=zH ((hC.weak (q':=fun b=>q b∧b≠w1.heap.size) (fun b hb hq=>⟨hq,by omega⟩)).below b02)
 have B02:=zH b02
 have HE:=zH hE
 have HQ0:=zH hq
 have HQM:=zH hqM
 have s02:w.heap.size≤w2.heap.size:=by omega
 have HR0:=zH hr0
 obtain ⟨w3,hw3⟩:∃w3,w2.alloc (.cells #[.int .i64 0,.slice none 0 0,.slice none 0 0,.slice none 0 0] 39)=w3:=⟨_,rfl⟩
 obtain ⟨b3,l3,hok,hI0⟩:=lp_init (ps:=ps) (ix:=0) hw3 l2 (by omega) hgM HQM.out HQ0.out s02 C2.out
 have HOK:=zH hok
 have I0:=zH hI0
 have O3:Hid (Oth Mb w w3):=zH ((Oth.of_below B02.out).trans (Oth.of_below b3))
 have G1:Hid (w3.heap[w.heap.size]?=some (.cells #[.slice A ps.length c] 120 (0,0))):=zH ((b3.block _ (by omega)).trans Q1.out)
 have G2:Hid (w3.heap[w1.heap.size]?=some (.cells #[.int .i64 0,.slice none 0 0,.slice none 0 0,.slice none 0 0] 39 (0,0))):=zH ((b3.block _ (by omega)).trans Q2.out)
 have TOT:Hid (∀os n ix A' c' W,PSt ks fs q w2.heap.size w1.heap.size Mb w3 os n ix A' c' W→Oth Mb w W∧W.cell? ⟨w.heap.size,0,none⟩=some (.slice A ps.length c)∧w3.heap.size≤W.heap.size):=zH (fun os n ix A' c' W h=>⟨h.othw O3.out s02,(zC (lpi_stay h G1.out (by omega) (by omega)) 0).trans rfl,h.frame.size⟩)
 have hgq:w.heap.size≤w2.heap.size:=s02
 have hne0:w.heap.size≠w2.heap.size:=by omega
 clear b3 hok hI0
 clear b1 b2 q1 q2 b02 hE hC hq hqM hr0
 have y0':w3.cell? ⟨w.heap.size,0,none⟩=some (.slice A ps.length c):=(zC G1.out 0).trans rfl
 go_enter Tryz.func151,Tryz.ntmps151
 go_wp2_with fail
 go_loopw [30] (fun i wr=>∃k:Nat,k≤ps.length∧i=.int .i64 (k:Int)∧Hid (LpI ks fs q w2.heap.size w1.heap.size Mb w3 ps k 0 wr∧(r↔Lfc.Ods.lexL L W B (ps.drop k)))) (fun i _=>ps.length-(intOf i).toNat)
 case atStart=>exact ⟨0,by omega,rfl,zH ⟨I0.out,by rw [List.drop_zero];exact HR0.out⟩⟩
 clear I0 hw3 y0 y0' hw1 hw2
 obtain ⟨k,hk,rfl,HI⟩:=hrel
 by_cases hlt:k<ps.length
 ·obtain ⟨⟨os,A1,c1,hS,hsz⟩,hr⟩:=HI.out
  obtain ⟨b,o,v,rfl,hb0,hbM,hcl,T,a,f,g,rfl,hme,hmw,⟨hcf,hcg⟩,hcan⟩:=HE.out k hlt
  have d0:=((TOT.out _ _ _ _ _ _ hS).1.cell (p:=⟨b,o+k,none⟩) hb0 hbM).trans hcl
  have HS:=zH hS
  have HSZ:=zH hsz
  have HRR:=zH hr
  have HLT:=zH hlt
  have hi0:(0:Int)≤(k:Int):=Int.natCast_nonneg _
  have hi1:(k:Int)<(ps.length:Int):=by omega
  clear hmw hcg hcl hb0 hbM
  have CE:=zH ((hcan wr (PQ q w2.heap.size w1.heap.size (.slice A1 k c1)) (TOT.out _ _ _ _ _ _ hS).1 hS.cache (hS.qnew HOK.out) (hS.qM HOK.out)).1 1 _ (.inl ⟨rfl,Iff.rfl⟩))
  have HCAN:=zH hcan
  clear hcan hS hsz hr HI
  go_wp2_with fail
  refine CE.out.mono ?_
  rintro e wa ⟨⟨pf,ix1,A5,A6,A7,n5,n6,n7,c5,c6,c7,bz,rfl,hpf,hpz,hb⟩,hCa,hoa⟩
  obtain ⟨wb,hwb⟩:∃wb,wa.alloc (.cells #[.int .i64 ix1,.slice A5 n5 c5,.slice A6 n6 c6,.slice A7 n7 c7] 39)=wb:=⟨_,rfl⟩
  have bw:=zG hwb
  have qb:=zQ hwb
  have HWB:=zH hwb
  have HSb:=zH ((HS.out.oth HOK.out hoa hCa).below HOK.out bw)
  have HPF:=zH (PfP.keep (fun b _ hlt=>bw.block b hlt) bw.size (fun _ _ h=>h) _ _ _ _ _ hpf)
  have HPZ:=zH hpz
  have HB:=zH hb
  have QB:=zH qb
  clear hwb bw qb hpf hpz hb hCa hoa CE
  clear d0
  go_upto_region 12 with fail
  rw [HWB.out]
  clear HWB
  cases bz with
  | true =>
   obtain ⟨s3,e3,A',c',s4,s5,s6,hrun,⟨d1,d2⟩,e5,⟨d3,d4⟩,e6,hP6⟩:=HSb.out.pushI HOK.out HPF.out (by omega) (k:Int)
   have HRUN:=zH hrun
   have z1:wb.cell? ⟨w2.heap.size,1,none⟩=some (.slice A1 k c1):=zC HSb.out.blk 1
   obtain ⟨y0,y1,y2,y3⟩:=cells4v QB.out
   have HP6:=zH hP6
   have HSZ6:Hid (Lfc.Pf.sizes (os++[pf])≤Lfc.Ods.sizes (ps.take (k+1))):=zH (by rw [Lfc.Pf.sizes_app,Lfc.sizes_takeO ps k hlt];have:=HSZ.out;have:=HPZ.out;omega)
   have HRT:Hid r:=zH (HRR.out.2 ((drop_lexL hlt).2 (.inl (HB.out.1 rfl))))
   clear hrun hP6 HSb HPF HPZ HB QB
   go_upto_region 14 with (at_builtin;refine wpList_append_run rfl _ _ 36 rfl _ _ _ _ rfl rfl HRUN.out ?_)
   clear y0 y1 y2 y3 z1 d1 d2 d3 d4 e3 e5 e6 HRUN
   obtain ⟨z0,z1,z2,z3⟩:=cells4v HP6.out.blk
   obtain ⟨r1,r2,r3,r4,h1,h2,h3,h4,⟨c0',c1',c2',c3'⟩,⟨t0,t1,t2,t3⟩,HQ,HZ⟩:=lpi_fin (b:=true) HP6.out HOK.out HSZ6.out O3.out G2.out hgl hgq ⟨fun _=>HRT.out,fun _=>rfl⟩
   go_wp2_with fail
   refine bodyPost_ret (results_proof2 rfl _ _ _ _ _ _ _ rfl HQ.out) rfl ?_
   exact HZ.out
  | false =>
   have HNL:Hid (¬Lfc.Ods.ls L W B ps[k]):=zH (fun h=>by have:=HB.out.2 h;cases this)
   have hSb:=HSb.out
   have hcan:=HCAN.out
   clear HB HPF HPZ QB
   have CE:=zH ((hcan wb (PQ q w2.heap.size w1.heap.size (.slice A1 k c1)) (TOT.out _ _ _ _ _ _ hSb).1 hSb.cache (hSb.qnew HOK.out) (hSb.qM HOK.out)).1 3 _ (.inr (.inr ⟨rfl,Iff.rfl⟩)))
   go_wp2_with fail
   refine CE.out.mono ?_
   rintro e wc ⟨⟨pf,ix1,A5,A6,A7,n5,n6,n7,c5,c6,c7,bz,rfl,hpf,hpz,hb⟩,hCa,hoa⟩
   obtain ⟨wd,hwd⟩:∃wd,wc.alloc (.cells #[.int .i64 ix1,.slice A5 n5 c5,.slice A6 n6 c6,.slice A7 n7 c7] 39)=wd:=⟨_,rfl⟩
   have bw:=zG hwd
   have qb:=zQ hwd
   have HWB:=zH hwd
   have HSb:=zH ((hSb.oth HOK.out hoa hCa).below HOK.out bw)
   have HPF:=zH (PfP.keep (fun b _ hlt=>bw.block b hlt) bw.size (fun _ _ h=>h) _ _ _ _ _ hpf)
   have HPZ:=zH hpz
   have HB:=zH hb
   have QB:=zH qb
   clear hwd bw qb hpf hpz hb hCa hoa CE
   go_upto_region 16 with fail
   rw [HWB.out]
   clear HWB
   cases bz with
   | false =>
    have HNR:Hid (¬r):=zH (fun h=>by have:=HB.out.2 ((fun h=>(((drop_lexL hlt).1 (HRR.out.1 h)).resolve_left HNL.out).1) h);cases this)
    obtain ⟨s1,s2,s3,s4,h1,h2,h3,h4,⟨c0',c1',c2',c3'⟩,⟨t0,t1,t2,t3⟩,HQ,HZ⟩:=lpi_none HSb.out HOK.out O3.out G2.out hgl hgq HNR.out
    go_wp2_with fail
    refine bodyPost_ret (results_proof2 rfl _ _ _ _ _ _ _ rfl HQ.out) rfl ?_
    exact HZ.out
   | true =>
    obtain ⟨s3,e3,A',c',s4,s5,hrun,⟨d1,d2⟩,e5,hP5⟩:=HSb.out.push HOK.out HPF.out (by omega)
    have HRUN:=zH hrun
    have HN:Hid (LpI ks fs q w2.heap.size w1.heap.size Mb w3 ps (k+1) 0 s5∧(r↔Lfc.Ods.lexL L W B (ps.drop (k+1)))):=zH ⟨lpi_next hlt HSZ.out HPZ.out hP5,(fun he=>⟨fun h=>(((drop_lexL hlt).1 (HRR.out.1 h)).resolve_left HNL.out).2,fun h=>HRR.out.2 ((drop_lexL hlt).2 (.inr ⟨he,h⟩))⟩) (HB.out.1 rfl)⟩
    have z1:wd.cell? ⟨w2.heap.size,1,none⟩=some (.slice A1 k c1):=zC HSb.out.blk 1
    obtain ⟨y0,y1,y2,y3⟩:=cells4v QB.out
    clear hrun hP5 HSb HPF HPZ HB QB
    go_wp2_with (at_builtin;refine wpList_append_run rfl _ _ 36 rfl _ _ _ _ rfl rfl HRUN.out ?_)
    go_roundw
    case rel=>exact ⟨k+1,by omega,by go_num,HN⟩
    case measure=>simp [intOf];omega
 obtain rfl:k=ps.length:=by omega
 obtain ⟨⟨os,A1,c1,hS,hsz⟩,hr⟩:=HI.out
 obtain ⟨s5,e5,⟨d1,d2⟩,hS5⟩:=hS.setIx HOK.out (ps.length:Int)
 have HS5:=zH hS5
 have HSZ:=zH hsz
 have HRR:=zH hr
 have y0:=(TOT.out _ _ _ _ _ _ hS).2.1
 clear hS hS5 hsz hr HI
 go_upto_region 21 with fail
 clear y0 d1 d2 e5
 obtain ⟨z0,z1,z2,z3⟩:=cells4v HS5.out.blk
 obtain ⟨r1,r2,r3,r4,h1,h2,h3,h4,⟨c0',c1',c2',c3'⟩,⟨t0,t1,t2,t3⟩,HQ,HZ⟩:=lpi_fin (r:=r) (b:=false) HS5.out HOK.out HSZ.out O3.out G2.out hgl hgq ⟨fun h=>(by cases h),fun h=>by have h:=HRR.out.1 h;rw [List.drop_length,Lfc.Ods.lexL] at h;exact h.elim⟩
 go_wp2_with fail
 refine bodyPost_ret (results_proof2 rfl _ _ _ _ _ _ _ rfl HQ.out) rfl ?_
 exact HZ.out
theorem oLex2_any (q:Nat→Prop) (L W B:Nat→Nat→Prop) (Bx Mb:Nat) (ks:List Int) (fs:List Lfc.Fact) (ps:List Lfc.Ods) (A:Option Addr) (c:Nat) (w:World) (r:Prop) (hE:Cans ks fs Mb Bx L W B w A ps) (hn:ps.length≤1000) (hC:Cache ks fs Mb q w) (hq:∀b,w.heap.size≤b→q b) (hqM:∀b,q b→b≠Mb) (hr0:r↔Lfc.Ods.lexL L W B ps∨Lfc.Ods.eqs W B ps) :
  Calls Tryz.prog 151 #[.agg #[.slice A ps.length c],.pointer (some ⟨Bx,0,none⟩),.int .i64 2] w (PrvA ks fs Mb q w (Lfc.Ods.sizes ps+1) r):=by
 obtain ⟨w1,hw1⟩:∃w1,w.alloc (.cells #[.slice A ps.length c] 120)=w1:=⟨_,rfl⟩
 obtain ⟨w2,hw2⟩:∃w2,w1.alloc (.cells #[.int .i64 0,.slice none 0 0,.slice none 0 0,.slice none 0 0] 39)=w2:=⟨_,rfl⟩
 have b1:=zG hw1
 have b2:=zG hw2
 have q1:=zQ hw1
 have q2:=zQ hw2
 have l1:=zL q1
 have l2:=zL q2
 have b02:Below w.heap.size w w2:=b1.trans (b2.mono (by omega))
 have hMb:=hC.lt
 have hgM:w1.heap.size≠Mb:=by omega
 have hgl:w.heap.size≤w1.heap.size:=by omega
 have Q1:=zH ((b2.block _ l1).trans q1)
 have Q2:=zH q2
 have y0:w2.cell? ⟨w.heap.size,0,none⟩=some (.slice A ps.length c):=zC Q1.out 0
 have C2:Hid (Cache ks fs Mb (fun b=>q b∧b≠w1.heap.size) w2):=zH ((hC.weak (q':=fun b=>q b∧b≠w1.heap.size) (fun b hb hq=>⟨hq,by omega⟩)).below b02)
 have B02:=zH b02
 have HE:=zH hE
 have HQ0:=zH hq
 have HQM:=zH hqM
 have s02:w.heap.size≤w2.heap.size:=by omega
 have C1:=zH (oLex1_any (fun b=>q b∧b≠w1.heap.size) L W B Bx Mb ks fs ps A c w2 _ (hE.oth (Oth.of_below b02)) hn C2.out (fun b hb=>⟨hq b (by omega),by omega⟩) (fun b hb=>hqM b hb.1) Iff.rfl)
 have HR2:=zH hr0
 clear b1 b2 q1 q2 b02 hE hC hq hqM hr0
 go_enter Tryz.func151,Tryz.ntmps151
 go_wp2_with fail
 refine C1.out.mono ?_
 rintro e wa ⟨⟨pf,ix1,A5,A6,A7,n5,n6,n7,c5,c6,c7,bz,rfl,hpf,hpz,hb⟩,hCa,hoa⟩
 obtain ⟨wB,hwB⟩:∃wB,wa.alloc (.cells #[.int .i64 ix1,.slice A5 n5 c5,.slice A6 n6 c6,.slice A7 n7 c7] 39)=wB:=⟨_,rfl⟩
 have bw:=zG hwB
 have qb:=zQ hwB
 have HWB:=zH hwB
 have CB:=zH (hCa.below bw)
 have HPF:=zH (PfP.keep (fun b _ hlt=>bw.block b hlt) bw.size (fun _ _ h=>h) _ _ _ _ _ hpf)
 have HPZ:=zH hpz
 have HB:=zH hb
 have QB:=zH qb
 have sB:w2.heap.size≤wB.heap.size:=Nat.le_trans hoa.size bw.size
 have OB:=zH ((Oth.of_below B02.out).trans (hoa.trans (Oth.of_below bw)))
 have G3:Hid (wB.heap[w.heap.size]?=some (.cells #[.slice A ps.length c] 120 (0,0))):=zH ((bw.block _ (by have:=hoa.size;omega)).trans ((hoa.block _ (by omega) (fun e=>by have e:=zO e;omega)).trans Q1.out))
 have G4:Hid (wB.heap[w1.heap.size]?=some (.cells #[.int .i64 0,.slice none 0 0,.slice none 0 0,.slice none 0 0] 39 (0,0))):=zH ((bw.block _ (by have:=hoa.size;omega)).trans ((hoa.block _ l2 (fun e=>hgM (zO e))).trans Q2.out))
 clear hwB bw qb hpf hpz hb hCa hoa C1 y0
 go_upto_region 3 with fail
 rw [HWB.out]
 clear HWB
 cases bz with
 | true =>
  have HRT:Hid r:=zH (HR2.out.2 (.inl (HB.out.1 rfl)))
  obtain ⟨y0,y1,y2,y3⟩:=cells4v QB.out
  obtain ⟨s1,s2,s3,s4,h1,h2,h3,h4,⟨c0',c1',c2',c3'⟩,⟨t0,t1,t2,t3⟩,HQ,HZ⟩:=prv_fin (q:=q) (w:=w) (N:=Lfc.Ods.sizes ps+1) (r:=r) (b:=true) G4.out HPF.out HPZ.out CB.out OB.out hgl hgM ⟨fun _=>HRT.out,fun _=>rfl⟩
  go_wp2_with fail
  refine bodyPost_ret (results_proof2 rfl _ _ _ _ _ _ _ rfl HQ.out) rfl ?_
  exact HZ.out
 | false =>
  have HR0:Hid (r↔Lfc.Ods.eqs W B ps):=zH (HR2.out.trans ⟨fun h=>h.resolve_left (fun h=>by have:=HB.out.2 h;cases this),.inr⟩)
  clear HB HPF HPZ QB
  obtain ⟨w3,hw3⟩:∃w3,wB.alloc (.cells #[.int .i64 0,.slice none 0 0,.slice none 0 0,.slice none 0 0] 39)=w3:=⟨_,rfl⟩
  obtain ⟨b3,l3,hok,hI0⟩:=lp_init (ps:=ps) (ix:=0) hw3 (by omega) (by omega) hgM HQM.out HQ0.out (by omega) CB.out
  have HOK:=zH hok
  have I0:=zH hI0
  have O3:Hid (Oth Mb w w3):=zH ((OB.out).trans (Oth.of_below b3))
  have G1:Hid (w3.heap[w.heap.size]?=some (.cells #[.slice A ps.length c] 120 (0,0))):=zH ((b3.block _ (by omega)).trans G3.out)
  have G2:Hid (w3.heap[w1.heap.size]?=some (.cells #[.int .i64 0,.slice none 0 0,.slice none 0 0,.slice none 0 0] 39 (0,0))):=zH ((b3.block _ (by omega)).trans G4.out)
  have TOT:Hid (∀os n ix A' c' W,PSt ks fs q wB.heap.size w1.heap.size Mb w3 os n ix A' c' W→Oth Mb w W∧W.cell? ⟨w.heap.size,0,none⟩=some (.slice A ps.length c)∧w3.heap.size≤W.heap.size):=zH (fun os n ix A' c' W h=>⟨h.othw O3.out (by omega),(zC (lpi_stay h G1.out (by omega) (by omega)) 0).trans rfl,h.frame.size⟩)
  have hgq:w.heap.size≤wB.heap.size:=by omega
  have hne0:w.heap.size≠wB.heap.size:=by omega
  clear b3 hok hI0
  have y0':w3.cell? ⟨w.heap.size,0,none⟩=some (.slice A ps.length c):=(zC G1.out 0).trans rfl
  go_wp2_with fail
  go_loopw [30] (fun i wr=>∃k:Nat,k≤ps.length∧i=.int .i64 (k:Int)∧Hid (LpI ks fs q wB.heap.size w1.heap.size Mb w3 ps k 0 wr∧(r↔Lfc.Ods.eqs W B (ps.drop k)))) (fun i _=>ps.length-(intOf i).toNat)
  case atStart=>exact ⟨0,by omega,rfl,zH ⟨I0.out,by rw [List.drop_zero];exact HR0.out⟩⟩
  clear I0 hw3 y0' hw1 hw2
  obtain ⟨k,hk,rfl,HI⟩:=hrel
  by_cases hlt:k<ps.length
  ·obtain ⟨⟨os,A1,c1,hS,hsz⟩,hr⟩:=HI.out
   obtain ⟨b,o,v,rfl,hb0,hbM,hcl,T,a,f,g,rfl,hme,hmw,⟨hcf,hcg⟩,hcan⟩:=HE.out k hlt
   have d0:=((TOT.out _ _ _ _ _ _ hS).1.cell (p:=⟨b,o+k,none⟩) hb0 hbM).trans hcl
   have HS:=zH hS
   have HSZ:=zH hsz
   have HRR:=zH hr
   have HLT:=zH hlt
   have hi0:(0:Int)≤(k:Int):=Int.natCast_nonneg _
   have hi1:(k:Int)<(ps.length:Int):=by omega
   clear hmw hcg hcl hb0 hbM
   have hSb:=hS
   have CE:=zH ((hcan wr (PQ q wB.heap.size w1.heap.size (.slice A1 k c1)) (TOT.out _ _ _ _ _ _ hSb).1 hSb.cache (hSb.qnew HOK.out) (hSb.qM HOK.out)).1 3 _ (.inr (.inr ⟨rfl,Iff.rfl⟩)))
   go_wp2_with fail
   refine CE.out.mono ?_
   rintro e wa ⟨⟨pf,ix1,A5,A6,A7,n5,n6,n7,c5,c6,c7,bz,rfl,hpf,hpz,hb⟩,hCa,hoa⟩
   obtain ⟨wb,hwb⟩:∃wb,wa.alloc (.cells #[.int .i64 ix1,.slice A5 n5 c5,.slice A6 n6 c6,.slice A7 n7 c7] 39)=wb:=⟨_,rfl⟩
   have bw:=zG hwb
   have qb:=zQ hwb
   have HWB:=zH hwb
   have HSb:=zH ((hSb.oth HOK.out hoa hCa).below HOK.out bw)
   have HPF:=zH (PfP.keep (fun b _ hlt=>bw.block b hlt) bw.size (fun _ _ h=>h) _ _ _ _ _ hpf)
   have HPZ:=zH hpz
   have HB:=zH hb
   have QB:=zH qb
   clear hwb bw qb hpf hpz hb hCa hoa CE
   clear d0 hcan hS hsz hr HI hSb
   go_upto_region 16 with fail
   rw [HWB.out]
   clear HWB
   cases bz with
   | false =>
    have HNR:Hid (¬r):=zH (fun h=>by have:=HB.out.2 ((fun h=>((drop_eqs hlt).1 (HRR.out.1 h)).1) h);cases this)
    obtain ⟨s1,s2,s3,s4,h1,h2,h3,h4,⟨c0',c1',c2',c3'⟩,⟨t0,t1,t2,t3⟩,HQ,HZ⟩:=lpi_none HSb.out HOK.out O3.out G2.out hgl hgq HNR.out
    go_wp2_with fail
    refine bodyPost_ret (results_proof2 rfl _ _ _ _ _ _ _ rfl HQ.out) rfl ?_
    exact HZ.out
   | true =>
    obtain ⟨s3,e3,A',c',s4,s5,hrun,⟨d1,d2⟩,e5,hP5⟩:=HSb.out.push HOK.out HPF.out (by omega)
    have HRUN:=zH hrun
    have HN:Hid (LpI ks fs q wB.heap.size w1.heap.size Mb w3 ps (k+1) 0 s5∧(r↔Lfc.Ods.eqs W B (ps.drop (k+1)))):=zH ⟨lpi_next hlt HSZ.out HPZ.out hP5,(fun he=>⟨fun h=>((drop_eqs hlt).1 (HRR.out.1 h)).2,fun h=>HRR.out.2 ((drop_eqs hlt).2 ⟨he,h⟩)⟩) (HB.out.1 rfl)⟩
    have z1:wb.cell? ⟨wB.heap.size,1,none⟩=some (.slice A1 k c1):=zC HSb.out.blk 1
    obtain ⟨y0,y1,y2,y3⟩:=cells4v QB.out
    clear hrun hP5 HSb HPF HPZ HB QB
    go_wp2_with (at_builtin;refine wpList_append_run rfl _ _ 36 rfl _ _ _ _ rfl rfl HRUN.out ?_)
    go_roundw
    case rel=>exact ⟨k+1,by omega,by go_num,HN⟩
    case measure=>simp [intOf];omega
  obtain rfl:k=ps.length:=by omega
  obtain ⟨⟨os,A1,c1,hS,hsz⟩,hr⟩:=HI.out
  obtain ⟨s5,e5,⟨d1,d2⟩,hS5⟩:=hS.setIx HOK.out (ps.length:Int)
  have HS5:=zH hS5
  have HSZ:=zH hsz
  have HRR:=zH hr
  have y0:=(TOT.out _ _ _ _ _ _ hS).2.1
  clear hS hS5 hsz hr HI
  go_upto_region 21 with fail
  clear y0 d1 d2 e5
  obtain ⟨z0,z1,z2,z3⟩:=cells4v HS5.out.blk
  obtain ⟨r1,r2,r3,r4,h1,h2,h3,h4,⟨c0',c1',c2',c3'⟩,⟨t0,t1,t2,t3⟩,HQ,HZ⟩:=lpi_fin (r:=r) (b:=true) HS5.out HOK.out HSZ.out O3.out G2.out hgl hgq ⟨fun _=>HRR.out.2 (by rw [List.drop_length,Lfc.Ods.eqs];trivial),fun _=>rfl⟩
  go_wp2_with fail
  refine bodyPost_ret (results_proof2 rfl _ _ _ _ _ _ _ rfl HQ.out) rfl ?_
  exact HZ.out
theorem oLexW_any (q:Nat→Prop) (L W B:Nat→Nat→Prop) (Bx Mb:Nat) (ks:List Int) (fs:List Lfc.Fact) (ps:List Lfc.Ods) (A:Option Addr) (c:Nat) (w:World) (r:Prop) (hE:Cans ks fs Mb Bx L W B w A ps) (hn:ps.length≤1000) (hC:Cache ks fs Mb q w) (hq:∀b,w.heap.size≤b→q b) (hqM:∀b,q b→b≠Mb) (hr0:r↔Lfc.Ods.eqs W B ps) :
  Calls Tryz.prog 153 #[.agg #[.slice A ps.length c],.pointer (some ⟨Bx,0,none⟩)] w (PrvA ks fs Mb q w (Lfc.Ods.sizes ps+1) r):=by
 obtain ⟨w1,hw1⟩:∃w1,w.alloc (.cells #[.slice A ps.length c] 120)=w1:=⟨_,rfl⟩
 obtain ⟨w2,hw2⟩:∃w2,w1.alloc (.cells #[.int .i64 0,.slice none 0 0,.slice none 0 0,.slice none 0 0] 39)=w2:=⟨_,rfl⟩
 have b1:=zG hw1
 have b2:=zG hw2
 have q1:=zQ hw1
 have q2:=zQ hw2
 have l1:=zL q1
 have l2:=zL q2
 have b02:Below w.heap.size w w2:=b1.trans (b2.mono (by omega))
 have hMb:=hC.lt
 have hgM:w1.heap.size≠Mb:=by omega
 have hgl:w.heap.size≤w1.heap.size:=by omega
 have Q1:=zH ((b2.block _ l1).trans q1)
 have Q2:=zH q2
 have y0:w2.cell? ⟨w.heap.size,0,none⟩=some (.slice A ps.length c):=zC Q1.out 0
 have C2:Hid (Cache ks fs Mb (fun b=>q b∧b≠w1.heap.size) w2):=zH ((hC.weak (q':=fun b=>q b∧b≠w1.heap.size) (fun b hb hq=>⟨hq,by omega⟩)).below b02)
 have B02:=zH b02
 have HE:=zH hE
 have HQ0:=zH hq
 have HQM:=zH hqM
 have s02:w.heap.size≤w2.heap.size:=by omega
 have C1:=zH (oLex3_any (fun b=>q b∧b≠w1.heap.size) L W B Bx Mb ks fs ps A c w2 _ (hE.oth (Oth.of_below b02)) hn C2.out (fun b hb=>⟨hq b (by omega),by omega⟩) (fun b hb=>hqM b hb.1) hr0)
 clear b1 b2 q1 q2 b02 hE hC hq hqM hr0
 go_enter Tryz.func153,Tryz.ntmps153
 go_wp2_with fail
 refine C1.out.mono ?_
 rintro e wa ⟨⟨pf,ix1,A5,A6,A7,n5,n6,n7,c5,c6,c7,bz,rfl,hpf,hpz,hb⟩,hCa,hoa⟩
 obtain ⟨s1,s2,s3,s4,h1,h2,h3,h4,⟨c0',c1',c2',c3'⟩,⟨t0,t1,t2,t3⟩,HQ,HZ⟩:=prv_fin (q:=q) (w:=w) (N:=Lfc.Ods.sizes ps+1) (r:=r) (b:=bz) ((hoa.block _ l2 (fun e=>hgM (zO e))).trans Q2.out) hpf hpz hCa ((Oth.of_below B02.out).trans hoa) hgl hgM hb
 clear hpf hCa hoa hb C1 y0 hw1 hw2
 go_wp2_with fail
 refine bodyPost_ret (results_proof2 rfl _ _ _ _ _ _ _ rfl HQ.out) rfl ?_
 exact HZ.out
end Go.Proofs.YtadjpadieljjlaaGreat
