/- Parts of the proof that no input makes the law false: OiW. -/
import Derived.Test.YtadjpadieljjlaaGreatIvAV
import Derived.Test.YtadjpadieljjlaaGreatIvBB
set_option linter.unusedVariables false
set_option linter.unusedSimpArgs false
set_option maxRecDepth 100000
set_option maxHeartbeats 32000000
namespace Go.Proofs.YtadjpadieljjlaaGreat
open Go.RowKit Go.Maps
attribute [local go_sem ↓] Go.wp_at_zero Go.wp_at_succ
theorem orderInstances_walk (v0 v1:Value) (zs ms:List Int) (w:World) (i0:IntsAt w v0 zs) (i1:IntsAt w v1 ms) :
  Calls Tryz.prog 6 #[v0,v1] w fun e w'=>e=.returned (.bool true)∧Below w.heap.size w w':=by
 obtain ⟨AT,cT,rfl⟩:∃A c,v0=.slice A zs.length c:=by obtain ⟨A,c,h,_⟩:=i0;exact ⟨A,c,h⟩
 obtain ⟨AM,cM,rfl⟩:∃A c,v1=.slice A ms.length c:=by obtain ⟨A,c,h,_⟩:=i1;exact ⟨A,c,h⟩
 obtain ⟨w1,hw1⟩:∃w1,w.alloc (.cells #[.slice AT zs.length cT,.int .i64 0] 33)=w1:=⟨_,rfl⟩
 have b1:=zG hw1
 have t1:=tape_new2 i0
 rw [hw1] at t1
 have hTw:w.heap.size<w1.heap.size:=t1.lt
 have B1:=zH b1
 have T1:=zH t1
 have I1:=zH i1
 obtain ⟨nm0,hnm0⟩:∃x,ms.length=x:=⟨_,rfl⟩
 rw [hnm0]
 have HNM:=zH hnm0
 clear t1 b1 i0 i1 hnm0
 go_enter Tryz.func6,Tryz.ntmps6
 go_wp2_with fail
 refine (mAsk_any w.heap.size w1 T1.out).mono ?_
 rintro e w2 ⟨⟨fs,F0,f0,rel,o,p,k1,a1,k2,a2,A1,A2,l1,c1,l2,c2,ts,us,L,R,cl,cr,ks,A0,c0,rfl,hrel,hcap,hQ⟩,T2,o2⟩
 obtain ⟨w3,hw3⟩:∃w3,w2.alloc (.cells #[.slice F0 fs.length f0,.int .i64 rel,.int .i64 k1,.int .i64 a1,.slice A1 l1 c1,.int .i64 k2,.int .i64 a2,.slice A2 l2 c2,.slice L ts.length cl,.slice R us.length cr,.slice A0 ks.length c0] 29)=w3:=⟨_,rfl⟩
 have b23:=zG hw3
 have q3:=zQ hw3
 have hQ3:=hQ.keep (q':=fun _=>True) (fun b _ hlt=>b23.block b hlt) b23.size (fun _ _ _=>trivial)
 have CL:=zH (oLight_any _ fs F0 o p f0 rel k1 a1 k2 a2 A1 A2 l1 c1 l2 c2 ts us L R cl cr ks A0 c0 w3 hQ3)
 have B3:Hid (Below w.heap.size w w3):=zH ((Oth.below B1.out o2 (zN _) (by omega)).trans (b23.mono (by have:=o2.size;omega)))
 have QO:Hid (∀W,Below w3.heap.size w3 W→QuO W fs F0 o p (.agg #[.int .i64 k1,.int .i64 a1,.slice A1 l1 c1]) (.agg #[.int .i64 k2,.int .i64 a2,.slice A2 l2 c2]) ts us L R cl cr ks A0):=zH (fun W hb=>hQ3.toQ hb)
 have SZ:Hid ((∀f∈fs,f.l.size≤40∧f.r.size≤40)∧(∀t∈ts,t.size≤40)∧(∀t∈us,t.size≤40)):=zH ⟨fun f hf=>⟨(hQ.gf f hf).1,(hQ.gf f hf).2.2.1⟩,hQ.zt,fun t ht=>(hQ.zu t ht).1⟩
 have FP:=zH hQ3.ff
 have TP:=zH (And.intro hQ3.tt hQ3.uu)
 have KP:=zH hQ3.kk
 have hfl:=hQ.fl
 have hkl:=hQ.kl
 have hn3:=hQ.n
 have hue:=hQ.eq
 obtain ⟨nf,hnf⟩:∃n,fs.length=n:=⟨_,rfl⟩
 obtain ⟨n,hn⟩:∃n,ts.length=n:=⟨_,rfl⟩
 obtain ⟨nk,hnk⟩:∃n,ks.length=n:=⟨_,rfl⟩
 have LN:Hid (fs.length=nf∧ts.length=n∧us.length=n∧ks.length=nk):=zH ⟨hnf,hn,by omega,hnk⟩
 have hn':us.length=n:=by omega
 rw [hnf] at hfl
 rw [hnk] at hkl
 rw [hn] at hn3
 rw [hnf,hn,hn',hnk] at CL hw3 q3 ⊢
 have H3:=zH hw3
 have q3l:=zL q3
 have s2:=o2.size
 have QC:Hid (∀W:World,Below w3.heap.size w3 W→W.heap[w2.heap.size]?=some (.cells #[.slice F0 nf f0,.int .i64 rel,.int .i64 k1,.int .i64 a1,.slice A1 l1 c1,.int .i64 k2,.int .i64 a2,.slice A2 l2 c2,.slice L n cl,.slice R n cr,.slice A0 nk c0] 29 (0,0))):=zH (fun W hb=>(hb.block _ q3l).trans q3)
 have UP:Hid (∀W,Below w3.heap.size w3 W→Below w.heap.size w W):=zH (fun W hb=>B3.out.trans (hb.mono B3.out.size))
 have aw:∀W W',Below w3.heap.size w3 W→Below W.heap.size W W'→Below w3.heap.size w3 W':=fun W W' h h'=>h.trans (h'.mono h.size)
 have C0:Hid (∀W,Below w3.heap.size w3 W→Calls Tryz.prog 16 #[.slice F0 nf f0,.int .i64 rel,.agg #[.int .i64 k1,.int .i64 a1,.slice A1 l1 c1],.slice L n cl,.agg #[.int .i64 k2,.int .i64 a2,.slice A2 l2 c2],.slice R n cr,.slice A0 nk c0] W (HldF W (Lfc.chkF fs o p ts us) (Lfc.hldF ks fs o p ts us rel))):=zH (fun W hb=>by
  have:=oHoldsF_any fs F0 o p _ _ ts us L R f0 cl cr c0 ks A0 rel W (QO.out W hb) hrel
  rwa [LN.out.1,LN.out.2.1,LN.out.2.2.1,LN.out.2.2.2] at this)
 have ZZ:Hid (Lfc.hldF ks fs o p ts us rel→Lfc.chkF fs o p ts us=0):=zH (fun h=>h.1)
 obtain ⟨zz,hzz⟩:∃z,Lfc.chkF fs o p ts us=z:=⟨_,rfl⟩
 rw [hzz] at C0 ZZ
 have HREL:=zH hrel
 obtain ⟨y0,y1,y2,y3,y4,y5,y6,y7,y8,y9,y10⟩:=cells11q q3
 clear hnf hn hn' hnk hue hcap hQ hQ3 q3 b23 hw3 hw1 T1 T2 o2 B1 B3 hrel hzz
 go_upto_region 2 with fail
 rw [H3.out]
 clear H3
 go_wp2_with fail
 refine CL.out.mono ?_
 rintro e w4 ⟨⟨b,rfl⟩,b4⟩
 clear y0 y1 y2 y3 y4 y5 y6 y7 y8 y9 y10 CL
 cases b with
 | false =>
  go_wp2_with fail
  refine (oAwake_any _).mono ?_
  rintro e w99 ⟨rfl,b99⟩
  go_wp2_with fail
  go_ret
  exact ⟨rfl,UP.out _ (aw _ _ b4 b99)⟩
 | true =>
  have HB4:=zH b4
  obtain ⟨y0,y1,y2,y3,y4,y5,y6,y7,y8,y9,y10⟩:=cells11q (QC.out _ b4)
  clear b4
  go_wp2_with fail
  refine (C0.out _ HB4.out).mono ?_
  rintro e w5 ⟨⟨b,rfl,hb⟩,b5⟩
  have HB5:=zH (aw _ _ HB4.out b5)
  have HBB:=zH hb
  clear y0 y1 y2 y3 y4 y5 y6 y7 y8 y9 y10 C0 b5 hb HB4
  cases b with
  | false =>
   go_wp2_with fail
   refine (oAwake_any _).mono ?_
   rintro e w99 ⟨rfl,b99⟩
   go_wp2_with fail
   go_ret
   exact ⟨rfl,UP.out _ (aw _ _ HB5.out b99)⟩
  | true =>
   have hh:Lfc.hldF ks fs o p ts us rel:=HBB.out.1 rfl
   obtain rfl:=ZZ.out hh
   have HH:=zH hh
   have OB:Hid ((∀f∈fs,f.l.isO=true∧f.r.isO=true)∧(∀t∈ts,t.isO=true)∧(∀t∈us,t.isO=true)):=zH (by
    have hall:=(Lfc.chkF_all.1 hh.1).1
    exact ⟨fun f hf=>⟨(hall _ (List.mem_append_left _ (List.mem_append_left _ (Lfc.flat_at hf).1))).2,(hall _ (List.mem_append_left _ (List.mem_append_left _ (Lfc.flat_at hf).2))).2⟩,fun t ht=>(hall _ (List.mem_append_left _ (List.mem_append_right _ ht))).2,fun t ht=>(hall _ (List.mem_append_right _ ht)).2⟩)
   clear hh HBB ZZ
   obtain ⟨w6,hw6⟩:∃w6,w5.alloc (.cells #[.slice AM nm0 cM,.int .i64 0] 33)=w6:=⟨_,rfl⟩
   obtain ⟨w7,hw7⟩:∃w7,w6.alloc (.cells #[S [105],.slice none 0 0] 63)=w7:=⟨_,rfl⟩
   obtain ⟨w8,hw8⟩:∃w8,w7.alloc (.cells #[.slice none 0 0] 27)=w8:=⟨_,rfl⟩
   obtain ⟨w9,hw9⟩:∃w9,w8.alloc (.cells #[.slice none 0 0] 61)=w9:=⟨_,rfl⟩
   have b6:=zG hw6
   have b7:=zG hw7
   have b8:=zG hw8
   have b9:=zG hw9
   have q7:=zQ hw7
   have q8:=zQ hw8
   have q9:=zQ hw9
   have t6:TapeI w5.heap.size w6:=by
    rw [←hw6]
    have:=tape_new2 (I1.out.below (UP.out _ HB5.out))
    rwa [HNM.out] at this
   have e6:w5.heap.size<w6.heap.size:=t6.lt
   have e7:=zL q7
   have e8:=zL q8
   have e9:=zL q9
   have g5:w2.heap.size<w5.heap.size:=by have:=HB5.out.size;omega
   have b89:Below w7.heap.size w7 w9:=b8.trans (b9.mono (by omega))
   have b79:Below w6.heap.size w6 w9:=b7.trans (b89.mono (by omega))
   have I0:Hid (InI w5 w5.heap.size w6.heap.size w7.heap.size w8.heap.size w9.heap.size ks 0 [] none 0 none 0 w9):=zH ⟨b6.trans (b79.mono (by omega)),t6.below b79,(b89.block _ e7).trans q7,(b9.block _ e8).trans q8,q9,rfl,⟨[],World.ownsRow_nil w9 w9.heap.size _ 4,World.ownsRow_nil w9 w9.heap.size _ 2,by rw [RowP]⟩,(fun b e=>by simp [Value.ownBlock] at e),(fun i h=>by cases h),zN _⟩
   have hord:(w5.heap.size≤w5.heap.size∧w5.heap.size≤w7.heap.size∧w5.heap.size≤w8.heap.size)∧w5.heap.size<w9.heap.size∧w6.heap.size<w9.heap.size∧w7.heap.size<w9.heap.size∧w8.heap.size<w9.heap.size∧w5.heap.size<w7.heap.size∧w5.heap.size<w8.heap.size∧w6.heap.size≠w7.heap.size∧w6.heap.size≠w8.heap.size∧w7.heap.size≠w8.heap.size:=by omega
   have HORD:=zH hord
   have H7:=zH hw7
   have K5:Hid (∀W,Below w5.heap.size w5 W→Below w3.heap.size w3 W):=zH (fun W hb=>aw _ _ HB5.out hb)
   clear b6 b7 b8 b9 q7 q8 q9 t6 b89 b79 hord hw7
   go_upto_region 9 with fail
   rw [H7.out]
   clear H7
   go_wp2_with fail
   clear hw6 hw8 hw9
   go_loopw [12] (fun i wr=>∃ (k:Nat) (vs:List Lfc.Raw) (A:Option Addr) (c:Nat) (B:Option Addr) (d:Nat),k≤nk∧i=.int .i64 (k:Int)∧Hid (InI w5 w5.heap.size w6.heap.size w7.heap.size w8.heap.size w9.heap.size ks k vs A c B d wr)) (fun i _=>nk-(intOf i).toNat)
   case atStart=>exact ⟨0,[],none,0,none,0,by omega,rfl,I0⟩
   clear I0
   obtain ⟨k,vs,A,c,B,d,hk,rfl,HI⟩:=hrel
   have hsI:=HI.out.size
   have y10:=(zC (QC.out _ (K5.out _ HI.out.bel)) 10:wr.cell? ⟨w2.heap.size,10,none⟩=some (.slice A0 nk c0))
   by_cases hlt:k<nk
   ·have hlt1:(k:Int)<(nk:Int):=by omega
    have hk0:(0:Int)≤(k:Int):=by omega
    obtain ⟨kb,ko,hA0,hkb,_,hkc⟩:=KP.out (by intro h0;have:=LN.out.2.2.2;rw [h0] at this;simp at this;omega)
    obtain rfl:A0=some ⟨kb,ko,none⟩:=hA0
    have hkc':=((K5.out _ HI.out.bel).cell (p:=⟨kb,ko+k,none⟩) hkb).trans (hkc k (by rw [LN.out.2.2.2];exact hlt))
    obtain ⟨kz,hkz⟩:∃z,ks.getD k 0=z:=⟨_,rfl⟩
    have KO:Hid (Lfc.kindOf ks (k:Int)=1↔kz=1):=zH (by rw [←hkz];exact Lfc.kindOf_at (by rw [LN.out.2.2.2];exact hlt))
    rw [hkz] at hkc'
    obtain ⟨w10,hw10⟩:∃w10,wr.alloc (.cells #[.int .i64 5,S [],.int .i64 (k:Int),.slice none 0 0] 51)=w10:=⟨_,rfl⟩
    have b10:=zG hw10
    have q10:=zQ hw10
    have l10:=zL q10
    have hqT:w2.heap.size≠w5.heap.size:=by omega
    have hvT:wr.heap.size≠w5.heap.size:=by have:=HORD.out.2.1;omega
    have hg9:w2.heap.size<wr.heap.size:=by have:=HORD.out.2.1;omega
    have hkb5:kb<w5.heap.size:=by have:=HB5.out.size;omega
    have hkr:kb<wr.heap.size:=by have:=HORD.out.2.1;omega
    have KZ:Hid (∀W,Oth w5.heap.size wr W→W.cell? ⟨w2.heap.size,10,none⟩=some (.slice (some ⟨kb,ko,none⟩) nk c0)∧W.cell? ⟨kb,ko+k,none⟩=some (.int .i64 kz)):=zH (fun W hW=>⟨(hW.cell (p:=⟨w2.heap.size,10,none⟩) hg9 hqT).trans y10,(hW.cell (p:=⟨kb,ko+k,none⟩) hkr (Nat.ne_of_lt hkb5)).trans hkc'⟩)
    have T10:=zH (HI.out.tape.below b10)
    have O10:Hid (Oth w5.heap.size wr w10):=zH (Oth.of_below b10)
    have Q10:=zH q10
    have H10:=zH hw10
    clear hkc hkc' q10 hw10 hkz y10 b10
    have y10:=(KZ.out wr (Oth.refl _ _)).1
    go_upto_region 15 with fail
    rw [H10.out]
    clear H10 y10
    obtain ⟨z10,zk⟩:=KZ.out w10 O10.out
    go_upto_if 80 with fail
    clear z10 zk
    go_cut [] (fun wx=>Hid (VBox wr w5.heap.size wr.heap.size ks k wx))
    case first =>
     by_cases hz:kz=1
     ·subst hz
      have hkd:=KO.out.2 rfl
      have HKD:=zH hkd
      clear hkd
      go_wp2_with fail
      refine (mClosed_any 2 (by omega) w5.heap.size w10 T10.out).mono ?_
      rintro e w11 ⟨⟨t9,v9,rfl,hv9,hc9,hz9⟩,T11,o11⟩
      obtain ⟨kk,nm,p9,xs9⟩:=t9
      obtain ⟨A9,c9,rfl,hp9⟩:=hv9.openT
      obtain ⟨s1,s2,s3,s4,g1,g2,g3,g4,⟨p0,p1,p2,p3⟩,⟨f0',f1,f2,f3⟩,hq,hot⟩:=tput4 (o11.heap Q10.out hvT) (.int .i64 kk) (S nm) (.int .i64 p9) (.slice A9 xs9.length c9)
      have s11:=o11.size
      have HN:Hid (VBox wr w5.heap.size wr.heap.size ks k s4):=zH ⟨kk,p9,nm,xs9,A9,c9,hq,hv9.keep (fun b hb hlt=>hot.block b hlt (fun e=>by have:=zO e;have hb:w10.heap.size≤b:=hb;omega)) hot.size (fun b _ hb=>by have hb:w10.heap.size≤b:=hb;exact ⟨by omega,by omega⟩),oth_put (O10.out.trans o11) hot (zN _),T11.oth (by have:=HORD.out.2.1;omega) hot,fun h=>absurd HKD.out h,fun _=>⟨hc9,hz9⟩⟩
      clear hv9 hc9 hz9 T11 o11 hp9 hq hot
      go_wp2_with fail
      go_meet
      exact HN
     have hz1:(kz == 1)=false:=by simpa using hz
     have hkd:Lfc.kindOf ks (k:Int)≠1:=fun h=>hz (KO.out.1 h)
     have HN:Hid (VBox wr w5.heap.size wr.heap.size ks k w10):=zH ⟨5,(k:Int),[],[],none,0,Q10.out,TreeVP.mk (by decide) (zN _) (fun h=>absurd rfl h),O10.out,T10.out,fun _=>rfl,fun h=>absurd h hkd⟩
     clear hz hkd
     go_wp2_with fail
     go_meet
     exact HN
    have HV:=zH hcut.out
    clear hcut T10 O10 Q10
    obtain ⟨z10,zk⟩:=KZ.out wc (by obtain ⟨_,_,_,_,_,_,_,_,ho,_⟩:=HV.out;exact ho)
    go_upto_if 88 with fail
    clear z10 zk
    go_cut [] (fun wx=>Hid (VBox wr w5.heap.size wr.heap.size ks k wx))
    case first =>
     by_cases hz:kz=1
     ·subst hz
      go_wp2_with fail
      go_meet
      exact HV
     have hz1:(kz != 1)=true:=by simpa using hz
     have hz2:(kz == 1)=false:=by simpa using hz
     have hkd:Lfc.kindOf ks (k:Int)≠1:=fun h=>hz (KO.out.1 h)
     obtain ⟨kk,p9,nm,xs9,A9,c9,hq,hv9,ho9,T9,hd1,hd2⟩:=HV.out
     have hvv:=hd1 hkd
     rw [Lfc.vv] at hvv
     injection hvv with e1 e2 e3 e4
     subst e1
     subst e2
     subst e3
     subst e4
     have z2:=(zC hq 2:wc.cell? ⟨wr.heap.size,2,none⟩=some (.int .i64 (k:Int)))
     have f2:=zF hq 2
     obtain ⟨s1,hs1⟩:∃s1,wc.setCell ⟨wr.heap.size,2,none⟩ (.int .i64 (k:Int))=s1:=⟨_,rfl⟩
     have hot:Oth wr.heap.size wc s1:=by rw [←hs1];exact Oth.set _ _
     have hq1:s1.heap[wr.heap.size]?=some (.cells #[.int .i64 5,S [],.int .i64 (k:Int),.slice A9 ([]:List Lfc.Raw).length c9] 51 (0,0)):=by rw [←hs1];simp [World.setCell,Array.getElem?_modify,hq]
     have HN:Hid (VBox wr w5.heap.size wr.heap.size ks k s1):=zH ⟨5,(k:Int),[],[],A9,c9,hq1,hv9.keep (fun b hb hlt=>hot.block b hlt (fun e=>hb.2 (zO e))) hot.size (fun _ _ h=>h),oth_put ho9 hot (zN _),T9.oth (by have:=HORD.out.2.1;omega) hot,fun _=>rfl,fun h=>absurd h hkd⟩
     clear hq hv9 ho9 T9 hd1 hd2 hot hq1 hz hkd HV
     go_wp2_with fail
     go_meet
     exact HN
    have HV2:=zH hcut.out
    clear hcut HV
    obtain ⟨kx,px,nx,xs,Ax,cx,hqx,hvx,hox,htx,hval⟩:=HV2.out
    have h1:=HI.out.othT (zN _) HORD.out.2.1 (by have:=HORD.out;omega) (by have:=HORD.out;omega) (by have:=HORD.out;omega) hox htx
    obtain ⟨xV,r1,r2,r3⟩:=h1.rows
    obtain ⟨_,r1o,r2o,_⟩:=HI.out.rows
    have hso:=hox.size
    have M00:=Mid2.start r1 r2 h1.dj
    have hnew:∀b,wr.heap.size≤b→(w9.heap.size≤b∧(Value.slice A k c).ownBlock≠some b∧(Value.slice B k d).ownBlock≠some b):=fun b hb=>⟨by omega,fun e=>by have:=(r1o.lt b e).2;omega,fun e=>by have:=(r2o.lt b e).2;omega⟩
    obtain ⟨_,_,_,_,e,hTX⟩:=hvx
    cases e
    have HTX:=zH (TreeP.keep (w:=wc) (w':=wc) (fun _ _ _=>rfl) (zN _) (fun b _ hb=>hnew b hb.1) _ _ _ _ _ hTX)
    have HVAL:=zH hval
    have HRV:=zH r3
    have HI1:=zH h1
    have hord:=HORD.out
    have lV:=zL h1.vb
    have lS:=zL h1.ss
    have lsB:=zL h1.sb
    have lvB:=zL hqx
    have hold:∀b,b<w9.heap.size→(Value.slice A k c).ownBlock≠some b∧(Value.slice B k d).ownBlock≠some b:=fun b hb=>⟨fun e=>by have:=(r1o.lt b e).1;omega,fun e=>by have:=(r2o.lt b e).1;omega⟩
    have nV:=hold w7.heap.size (by omega)
    have nS:=hold w8.heap.size (by omega)
    have nsB:=hold w6.heap.size (by omega)
    have nvB:=(hnew wr.heap.size (zN _)).2
    have nVS:w7.heap.size≠w8.heap.size:=by omega
    have nvV:wr.heap.size≠w7.heap.size:=by omega
    have nvS:wr.heap.size≠w8.heap.size:=by omega
    have nsV:w6.heap.size≠w7.heap.size:=by omega
    have nsS:w6.heap.size≠w8.heap.size:=by omega
    have QV:Hid (∀W:World,W.heap[w7.heap.size]?=wc.heap[w7.heap.size]?→W.cell? ⟨w7.heap.size,0,none⟩=some (.slice A k c)):=zH (fun W hW=>zC (hW.trans HI1.out.vb) 0)
    have QS:Hid (∀W:World,W.heap[w8.heap.size]?=wc.heap[w8.heap.size]?→W.cell? ⟨w8.heap.size,0,none⟩=some (.slice B k d)):=zH (fun W hW=>zC (hW.trans HI1.out.ss) 0)
    have SC:Hid (∀W:World,W.heap[wr.heap.size]?=wc.heap[wr.heap.size]?∧W.heap[w6.heap.size]?=wc.heap[w6.heap.size]?→((W.cell? ⟨wr.heap.size,0,none⟩=some (.int .i64 kx)∧W.cell? ⟨wr.heap.size,1,none⟩=some (S nx)∧W.cell? ⟨wr.heap.size,2,none⟩=some (.int .i64 px)∧W.cell? ⟨wr.heap.size,3,none⟩=some (.slice Ax xs.length cx))∧(W.cell? ⟨w6.heap.size,0,none⟩=some (S [105])∧W.cell? ⟨w6.heap.size,1,none⟩=some (.slice none 0 0)))):=zH (fun W ⟨h7,h8⟩=>⟨cells4t (h7.trans hqx),zC (h8.trans HI1.out.sb) 0,zC (h8.trans HI1.out.sb) 1⟩)
    have SK:Hid (∀ {W:World},(∀b,b<wc.heap.size→(Value.slice A k c).ownBlock≠some b→(Value.slice B k d).ownBlock≠some b→W.heap[b]?=wc.heap[b]?)→W.heap[wr.heap.size]?=wc.heap[wr.heap.size]?∧W.heap[w6.heap.size]?=wc.heap[w6.heap.size]?):=zH (fun h=>⟨h _ lvB nvB.1 nvB.2,h _ lsB nsB.1 nsB.2⟩)
    have hsz:=h1.size
    have hlm:k+1≤maxLen:=by unfold maxLen;omega
    have hl56:(k+1)*56≤140737488355328:=by omega
    have hl40:(k+1)*40≤140737488355328:=by omega
    clear hqx hox htx hval h1 r1 r2 r3 r1o r2o hnew hTX hold HV2
    go_upto_region 19 with fail
    refine wp_region_held_drew (S:=fun W=>((W.cell? ⟨wr.heap.size,0,none⟩=some (.int .i64 kx)∧W.cell? ⟨wr.heap.size,1,none⟩=some (S nx)∧W.cell? ⟨wr.heap.size,2,none⟩=some (.int .i64 px)∧W.cell? ⟨wr.heap.size,3,none⟩=some (.slice Ax xs.length cx))∧(W.cell? ⟨w6.heap.size,0,none⟩=some (S [105])∧W.cell? ⟨w6.heap.size,1,none⟩=some (.slice none 0 0)))) (by kernel_rfl) ?_ (fun hHeld=>?_)
    ·exact SC.out _ ⟨rfl,rfl⟩
    have M:=M00
    clear M00
    apply shareA
    intro LAST20
    apply shareA
    intro LAST19
    apply shareA
    intro LAST18
    apply shareA
    intro LAST17
    apply shareA
    intro LAST16
    apply shareA
    intro LAST15
    apply shareA
    intro LAST14
    apply shareA
    intro LAST13
    apply shareA
    intro LAST12
    apply shareA
    intro LAST11
    apply shareA
    intro LAST10
    apply shareA
    intro LAST9
    apply shareA
    intro LAST8
    apply shareA
    intro LAST7
    apply shareA
    intro LAST6
    apply shareA
    intro LAST5
    apply shareA
    intro LAST4
    apply shareA
    intro LAST3
    apply shareA
    intro LAST2
    apply shareA
    intro LAST1
    obtain ⟨AL',AR',cL',cR',ga,gb,-⟩:∃ (_ _:Option Addr) (_ _ _ _:Nat),True:=⟨none,none,0,0,0,0,trivial⟩
    obtain ⟨wz,hwz⟩:∃wz,wc.drew=wz:=⟨_,rfl⟩
    rw [hwz] at M hHeld ⊢
    clear hwz
    refine tk 1 ?_
    refine tk 5 ?_
    refine rd4 0 2 4 6 (fun K hK=>?_) (fun K hK=>?_) (fun K hK=>?_) (fun K hK=>?_)
    ·have z8:=QV.out _ (M.keep _ lV nV.1 nV.2)
     go_simp
     refine hK.out _ _ (SC.out _ (SK.out M.keep)) (fun hHeld=>nrm ?_)
     clear hK K
     clear z8
     exact LAST1 AL' AR' cL' cR' ga gb wz M
    ·have Ea:=Ext.new2 M #[.int .i64 kx,S nx,.int .i64 px,.slice Ax xs.length cx] 51
     have M:=M.alloc (.cells #[.int .i64 kx,S nx,.int .i64 px,.slice Ax xs.length cx] 51)
     go_simp
     refine hK.out _ _ (SC.out _ (SK.out M.keep)) (fun hHeld=>nrm ?_)
     clear hK K
     obtain ⟨w2,hwA⟩:∃w2,wz.alloc (.cells #[.int .i64 kx,S nx,.int .i64 px,.slice Ax xs.length cx] 51)=w2:=⟨_,rfl⟩
     rw [hwA] at M Ea hHeld ⊢
     clear hwA
     obtain ⟨ga,hg⟩:∃g,wz.heap.size=g:=⟨_,rfl⟩
     rw [hg] at Ea ⊢
     exact LAST2 AL' AR' cL' cR' ga gb w2 (And.intro M Ea)
    ·have z9:=QS.out _ (M.keep _ lS nS.1 nS.2)
     go_simp
     refine hK.out _ _ (SC.out _ (SK.out M.keep)) (fun hHeld=>nrm ?_)
     clear hK K
     clear z9
     exact LAST3 AL' AR' cL' cR' ga gb wz M
    have Eb:=Ext.new2 M #[S [105],.slice none 0 0] 63
    have M:=M.alloc (.cells #[S [105],.slice none 0 0] 63)
    go_simp
    refine hK.out _ _ (SC.out _ (SK.out M.keep)) (fun hHeld=>nrm ?_)
    clear hK K
    obtain ⟨w2,hwA⟩:∃w2,wz.alloc (.cells #[S [105],.slice none 0 0] 63)=w2:=⟨_,rfl⟩
    rw [hwA] at M Eb hHeld ⊢
    clear hwA
    obtain ⟨gb,hg⟩:∃g,wz.heap.size=g:=⟨_,rfl⟩
    rw [hg] at Eb ⊢
    exact LAST4 AL' AR' cL' cR' ga gb w2 (And.intro M Eb)
    rintro AL' AR' cL' cR' ga gb wz M
    refine rd3 2 4 6 (fun K hK=>?_) (fun K hK=>?_) (fun K hK=>?_)
    ·have Ea:=Ext.new2 M #[.int .i64 kx,S nx,.int .i64 px,.slice Ax xs.length cx] 51
     have M:=M.alloc (.cells #[.int .i64 kx,S nx,.int .i64 px,.slice Ax xs.length cx] 51)
     go_simp
     refine hK.out _ _ (SC.out _ (SK.out M.keep)) (fun hHeld=>nrm ?_)
     clear hK K
     obtain ⟨w2,hwA⟩:∃w2,wz.alloc (.cells #[.int .i64 kx,S nx,.int .i64 px,.slice Ax xs.length cx] 51)=w2:=⟨_,rfl⟩
     rw [hwA] at M Ea hHeld ⊢
     clear hwA
     obtain ⟨ga,hg⟩:∃g,wz.heap.size=g:=⟨_,rfl⟩
     rw [hg] at Ea ⊢
     exact LAST5 AL' AR' cL' cR' ga gb w2 (And.intro M Ea)
    ·have z9:=QS.out _ (M.keep _ lS nS.1 nS.2)
     go_simp
     refine hK.out _ _ (SC.out _ (SK.out M.keep)) (fun hHeld=>nrm ?_)
     clear hK K
     clear z9
     exact LAST6 AL' AR' cL' cR' ga gb wz M
    have Eb:=Ext.new2 M #[S [105],.slice none 0 0] 63
    have M:=M.alloc (.cells #[S [105],.slice none 0 0] 63)
    go_simp
    refine hK.out _ _ (SC.out _ (SK.out M.keep)) (fun hHeld=>nrm ?_)
    clear hK K
    obtain ⟨w2,hwA⟩:∃w2,wz.alloc (.cells #[S [105],.slice none 0 0] 63)=w2:=⟨_,rfl⟩
    rw [hwA] at M Eb hHeld ⊢
    clear hwA
    obtain ⟨gb,hg⟩:∃g,wz.heap.size=g:=⟨_,rfl⟩
    rw [hg] at Eb ⊢
    exact LAST7 AL' AR' cL' cR' ga gb w2 (And.intro M Eb)
    rintro AL' AR' cL' cR' ga gb wz ⟨M,Ea⟩
    refine rd3 0 4 6 (fun K hK=>?_) (fun K hK=>?_) (fun K hK=>?_)
    ·have z8:=QV.out _ (M.keep _ lV nV.1 nV.2)
     go_simp
     refine hK.out _ _ (SC.out _ (SK.out M.keep)) (fun hHeld=>nrm ?_)
     clear hK K
     clear z8
     exact LAST5 AL' AR' cL' cR' ga gb wz (And.intro M Ea)
    ·have z9:=QS.out _ (M.keep _ lS nS.1 nS.2)
     go_simp
     refine hK.out _ _ (SC.out _ (SK.out M.keep)) (fun hHeld=>nrm ?_)
     clear hK K
     clear z9
     exact LAST8 AL' AR' cL' cR' ga gb wz (And.intro M Ea)
    have Eb:=Ext.new2 M #[S [105],.slice none 0 0] 63
    have M:=M.alloc (.cells #[S [105],.slice none 0 0] 63)
    have Ea:=Ea.alloc (.cells #[S [105],.slice none 0 0] 63)
    go_simp
    refine hK.out _ _ (SC.out _ (SK.out M.keep)) (fun hHeld=>nrm ?_)
    clear hK K
    obtain ⟨w2,hwA⟩:∃w2,wz.alloc (.cells #[S [105],.slice none 0 0] 63)=w2:=⟨_,rfl⟩
    rw [hwA] at M Ea Eb hHeld ⊢
    clear hwA
    obtain ⟨gb,hg⟩:∃g,wz.heap.size=g:=⟨_,rfl⟩
    rw [hg] at Eb ⊢
    exact LAST9 AL' AR' cL' cR' ga gb w2 (And.intro M (And.intro Ea Eb))
    rintro AL' AR' cL' cR' ga gb wz M
    refine rd3 0 2 6 (fun K hK=>?_) (fun K hK=>?_) (fun K hK=>?_)
    ·have z8:=QV.out _ (M.keep _ lV nV.1 nV.2)
     go_simp
     refine hK.out _ _ (SC.out _ (SK.out M.keep)) (fun hHeld=>nrm ?_)
     clear hK K
     clear z8
     exact LAST6 AL' AR' cL' cR' ga gb wz M
    ·have Ea:=Ext.new2 M #[.int .i64 kx,S nx,.int .i64 px,.slice Ax xs.length cx] 51
     have M:=M.alloc (.cells #[.int .i64 kx,S nx,.int .i64 px,.slice Ax xs.length cx] 51)
     go_simp
     refine hK.out _ _ (SC.out _ (SK.out M.keep)) (fun hHeld=>nrm ?_)
     clear hK K
     obtain ⟨w2,hwA⟩:∃w2,wz.alloc (.cells #[.int .i64 kx,S nx,.int .i64 px,.slice Ax xs.length cx] 51)=w2:=⟨_,rfl⟩
     rw [hwA] at M Ea hHeld ⊢
     clear hwA
     obtain ⟨ga,hg⟩:∃g,wz.heap.size=g:=⟨_,rfl⟩
     rw [hg] at Ea ⊢
     exact LAST8 AL' AR' cL' cR' ga gb w2 (And.intro M Ea)
    have Eb:=Ext.new2 M #[S [105],.slice none 0 0] 63
    have M:=M.alloc (.cells #[S [105],.slice none 0 0] 63)
    go_simp
    refine hK.out _ _ (SC.out _ (SK.out M.keep)) (fun hHeld=>nrm ?_)
    clear hK K
    obtain ⟨w2,hwA⟩:∃w2,wz.alloc (.cells #[S [105],.slice none 0 0] 63)=w2:=⟨_,rfl⟩
    rw [hwA] at M Eb hHeld ⊢
    clear hwA
    obtain ⟨gb,hg⟩:∃g,wz.heap.size=g:=⟨_,rfl⟩
    rw [hg] at Eb ⊢
    exact LAST10 AL' AR' cL' cR' ga gb w2 (And.intro M Eb)
    rintro AL' AR' cL' cR' ga gb wz ⟨M,Eb⟩
    refine rd3 0 2 4 (fun K hK=>?_) (fun K hK=>?_) (fun K hK=>?_)
    ·have z8:=QV.out _ (M.keep _ lV nV.1 nV.2)
     go_simp
     refine hK.out _ _ (SC.out _ (SK.out M.keep)) (fun hHeld=>nrm ?_)
     clear hK K
     clear z8
     exact LAST7 AL' AR' cL' cR' ga gb wz (And.intro M Eb)
    ·have Ea:=Ext.new2 M #[.int .i64 kx,S nx,.int .i64 px,.slice Ax xs.length cx] 51
     have M:=M.alloc (.cells #[.int .i64 kx,S nx,.int .i64 px,.slice Ax xs.length cx] 51)
     have Eb:=Eb.alloc (.cells #[.int .i64 kx,S nx,.int .i64 px,.slice Ax xs.length cx] 51)
     go_simp
     refine hK.out _ _ (SC.out _ (SK.out M.keep)) (fun hHeld=>nrm ?_)
     clear hK K
     obtain ⟨w2,hwA⟩:∃w2,wz.alloc (.cells #[.int .i64 kx,S nx,.int .i64 px,.slice Ax xs.length cx] 51)=w2:=⟨_,rfl⟩
     rw [hwA] at M Eb Ea hHeld ⊢
     clear hwA
     obtain ⟨ga,hg⟩:∃g,wz.heap.size=g:=⟨_,rfl⟩
     rw [hg] at Ea ⊢
     exact LAST9 AL' AR' cL' cR' ga gb w2 (And.intro M (And.intro Ea Eb))
    have z9:=QS.out _ (M.keep _ lS nS.1 nS.2)
    go_simp
    refine hK.out _ _ (SC.out _ (SK.out M.keep)) (fun hHeld=>nrm ?_)
    clear hK K
    clear z9
    exact LAST10 AL' AR' cL' cR' ga gb wz (And.intro M Eb)
    rintro AL' AR' cL' cR' ga gb wz ⟨M,Ea⟩
    refine rd3 3 4 6 (fun K hK=>?_) (fun K hK=>?_) (fun K hK=>?_)
    ·refine apT [.int .i64 kx,S nx,.int .i64 px,.slice Ax xs.length cx] M.L (fun j u h=>Ea.cells j u h) oneCellT hlm hl56 (Nat.le_trans hsz M.size) ?_
     intro AL' cL' w2 hown hg hloc
     have M:=M.appL hown hg hloc
     refine hK.out _ _ (SC.out _ (SK.out M.keep)) (fun hHeld=>nrm ?_)
     clear hK K
     clear hown hg hloc
     exact LAST11 AL' AR' cL' cR' ga gb w2 M
    ·have z9:=QS.out _ (M.keep _ lS nS.1 nS.2)
     go_simp
     refine hK.out _ _ (SC.out _ (SK.out M.keep)) (fun hHeld=>nrm ?_)
     clear hK K
     clear z9
     exact LAST12 AL' AR' cL' cR' ga gb wz (And.intro M Ea)
    have Eb:=Ext.new2 M #[S [105],.slice none 0 0] 63
    have M:=M.alloc (.cells #[S [105],.slice none 0 0] 63)
    have Ea:=Ea.alloc (.cells #[S [105],.slice none 0 0] 63)
    go_simp
    refine hK.out _ _ (SC.out _ (SK.out M.keep)) (fun hHeld=>nrm ?_)
    clear hK K
    obtain ⟨w2,hwA⟩:∃w2,wz.alloc (.cells #[S [105],.slice none 0 0] 63)=w2:=⟨_,rfl⟩
    rw [hwA] at M Ea Eb hHeld ⊢
    clear hwA
    obtain ⟨gb,hg⟩:∃g,wz.heap.size=g:=⟨_,rfl⟩
    rw [hg] at Eb ⊢
    exact LAST13 AL' AR' cL' cR' ga gb w2 (And.intro M (And.intro Ea Eb))
    rintro AL' AR' cL' cR' ga gb wz M
    refine rd2 2 6 (fun K hK=>?_) (fun K hK=>?_)
    ·have Ea:=Ext.new2 M #[.int .i64 kx,S nx,.int .i64 px,.slice Ax xs.length cx] 51
     have M:=M.alloc (.cells #[.int .i64 kx,S nx,.int .i64 px,.slice Ax xs.length cx] 51)
     go_simp
     refine hK.out _ _ (SC.out _ (SK.out M.keep)) (fun hHeld=>nrm ?_)
     clear hK K
     obtain ⟨w2,hwA⟩:∃w2,wz.alloc (.cells #[.int .i64 kx,S nx,.int .i64 px,.slice Ax xs.length cx] 51)=w2:=⟨_,rfl⟩
     rw [hwA] at M Ea hHeld ⊢
     clear hwA
     obtain ⟨ga,hg⟩:∃g,wz.heap.size=g:=⟨_,rfl⟩
     rw [hg] at Ea ⊢
     exact LAST12 AL' AR' cL' cR' ga gb w2 (And.intro M Ea)
    have Eb:=Ext.new2 M #[S [105],.slice none 0 0] 63
    have M:=M.alloc (.cells #[S [105],.slice none 0 0] 63)
    go_simp
    refine hK.out _ _ (SC.out _ (SK.out M.keep)) (fun hHeld=>nrm ?_)
    clear hK K
    obtain ⟨w2,hwA⟩:∃w2,wz.alloc (.cells #[S [105],.slice none 0 0] 63)=w2:=⟨_,rfl⟩
    rw [hwA] at M Eb hHeld ⊢
    clear hwA
    obtain ⟨gb,hg⟩:∃g,wz.heap.size=g:=⟨_,rfl⟩
    rw [hg] at Eb ⊢
    exact LAST14 AL' AR' cL' cR' ga gb w2 (And.intro M Eb)
    rintro AL' AR' cL' cR' ga gb wz ⟨M,Eb⟩
    refine rd2 2 4 (fun K hK=>?_) (fun K hK=>?_)
    ·have Ea:=Ext.new2 M #[.int .i64 kx,S nx,.int .i64 px,.slice Ax xs.length cx] 51
     have M:=M.alloc (.cells #[.int .i64 kx,S nx,.int .i64 px,.slice Ax xs.length cx] 51)
     have Eb:=Eb.alloc (.cells #[.int .i64 kx,S nx,.int .i64 px,.slice Ax xs.length cx] 51)
     go_simp
     refine hK.out _ _ (SC.out _ (SK.out M.keep)) (fun hHeld=>nrm ?_)
     clear hK K
     obtain ⟨w2,hwA⟩:∃w2,wz.alloc (.cells #[.int .i64 kx,S nx,.int .i64 px,.slice Ax xs.length cx] 51)=w2:=⟨_,rfl⟩
     rw [hwA] at M Eb Ea hHeld ⊢
     clear hwA
     obtain ⟨ga,hg⟩:∃g,wz.heap.size=g:=⟨_,rfl⟩
     rw [hg] at Ea ⊢
     exact LAST13 AL' AR' cL' cR' ga gb w2 (And.intro M (And.intro Ea Eb))
    have z9:=QS.out _ (M.keep _ lS nS.1 nS.2)
    go_simp
    refine hK.out _ _ (SC.out _ (SK.out M.keep)) (fun hHeld=>nrm ?_)
    clear hK K
    clear z9
    exact LAST14 AL' AR' cL' cR' ga gb wz (And.intro M Eb)
    rintro AL' AR' cL' cR' ga gb wz ⟨M,Ea⟩
    refine rd2 0 6 (fun K hK=>?_) (fun K hK=>?_)
    ·have z8:=QV.out _ (M.keep _ lV nV.1 nV.2)
     go_simp
     refine hK.out _ _ (SC.out _ (SK.out M.keep)) (fun hHeld=>nrm ?_)
     clear hK K
     clear z8
     exact LAST12 AL' AR' cL' cR' ga gb wz (And.intro M Ea)
    have Eb:=Ext.new2 M #[S [105],.slice none 0 0] 63
    have M:=M.alloc (.cells #[S [105],.slice none 0 0] 63)
    have Ea:=Ea.alloc (.cells #[S [105],.slice none 0 0] 63)
    go_simp
    refine hK.out _ _ (SC.out _ (SK.out M.keep)) (fun hHeld=>nrm ?_)
    clear hK K
    obtain ⟨w2,hwA⟩:∃w2,wz.alloc (.cells #[S [105],.slice none 0 0] 63)=w2:=⟨_,rfl⟩
    rw [hwA] at M Ea Eb hHeld ⊢
    clear hwA
    obtain ⟨gb,hg⟩:∃g,wz.heap.size=g:=⟨_,rfl⟩
    rw [hg] at Eb ⊢
    exact LAST15 AL' AR' cL' cR' ga gb w2 (And.intro M (And.intro Ea Eb))
    rintro AL' AR' cL' cR' ga gb wz ⟨M,Ea,Eb⟩
    refine rd2 0 4 (fun K hK=>?_) (fun K hK=>?_)
    ·have z8:=QV.out _ (M.keep _ lV nV.1 nV.2)
     go_simp
     refine hK.out _ _ (SC.out _ (SK.out M.keep)) (fun hHeld=>nrm ?_)
     clear hK K
     clear z8
     exact LAST13 AL' AR' cL' cR' ga gb wz (And.intro M (And.intro Ea Eb))
    have z9:=QS.out _ (M.keep _ lS nS.1 nS.2)
    go_simp
    refine hK.out _ _ (SC.out _ (SK.out M.keep)) (fun hHeld=>nrm ?_)
    clear hK K
    clear z9
    exact LAST15 AL' AR' cL' cR' ga gb wz (And.intro M (And.intro Ea Eb))
    rintro AL' AR' cL' cR' ga gb wz ⟨M,Eb⟩
    refine rd2 0 2 (fun K hK=>?_) (fun K hK=>?_)
    ·have z8:=QV.out _ (M.keep _ lV nV.1 nV.2)
     go_simp
     refine hK.out _ _ (SC.out _ (SK.out M.keep)) (fun hHeld=>nrm ?_)
     clear hK K
     clear z8
     exact LAST14 AL' AR' cL' cR' ga gb wz (And.intro M Eb)
    have Ea:=Ext.new2 M #[.int .i64 kx,S nx,.int .i64 px,.slice Ax xs.length cx] 51
    have M:=M.alloc (.cells #[.int .i64 kx,S nx,.int .i64 px,.slice Ax xs.length cx] 51)
    have Eb:=Eb.alloc (.cells #[.int .i64 kx,S nx,.int .i64 px,.slice Ax xs.length cx] 51)
    go_simp
    refine hK.out _ _ (SC.out _ (SK.out M.keep)) (fun hHeld=>nrm ?_)
    clear hK K
    obtain ⟨w2,hwA⟩:∃w2,wz.alloc (.cells #[.int .i64 kx,S nx,.int .i64 px,.slice Ax xs.length cx] 51)=w2:=⟨_,rfl⟩
    rw [hwA] at M Eb Ea hHeld ⊢
    clear hwA
    obtain ⟨ga,hg⟩:∃g,wz.heap.size=g:=⟨_,rfl⟩
    rw [hg] at Ea ⊢
    exact LAST15 AL' AR' cL' cR' ga gb w2 (And.intro M (And.intro Ea Eb))
    rintro AL' AR' cL' cR' ga gb wz M
    refine rd2 4 6 (fun K hK=>?_) (fun K hK=>?_)
    ·have z9:=QS.out _ (M.keep _ lS nS.1 nS.2)
     go_simp
     refine hK.out _ _ (SC.out _ (SK.out M.keep)) (fun hHeld=>nrm ?_)
     clear hK K
     clear z9
     exact LAST16 AL' AR' cL' cR' ga gb wz M
    have Eb:=Ext.new2 M #[S [105],.slice none 0 0] 63
    have M:=M.alloc (.cells #[S [105],.slice none 0 0] 63)
    go_simp
    refine hK.out _ _ (SC.out _ (SK.out M.keep)) (fun hHeld=>nrm ?_)
    clear hK K
    obtain ⟨w2,hwA⟩:∃w2,wz.alloc (.cells #[S [105],.slice none 0 0] 63)=w2:=⟨_,rfl⟩
    rw [hwA] at M Eb hHeld ⊢
    clear hwA
    obtain ⟨gb,hg⟩:∃g,wz.heap.size=g:=⟨_,rfl⟩
    rw [hg] at Eb ⊢
    exact LAST17 AL' AR' cL' cR' ga gb w2 (And.intro M Eb)
    rintro AL' AR' cL' cR' ga gb wz ⟨M,Ea⟩
    refine rd2 3 6 (fun K hK=>?_) (fun K hK=>?_)
    ·refine apT [.int .i64 kx,S nx,.int .i64 px,.slice Ax xs.length cx] M.L (fun j u h=>Ea.cells j u h) oneCellT hlm hl56 (Nat.le_trans hsz M.size) ?_
     intro AL' cL' w2 hown hg hloc
     have M:=M.appL hown hg hloc
     refine hK.out _ _ (SC.out _ (SK.out M.keep)) (fun hHeld=>nrm ?_)
     clear hK K
     clear hown hg hloc
     exact LAST16 AL' AR' cL' cR' ga gb w2 M
    have Eb:=Ext.new2 M #[S [105],.slice none 0 0] 63
    have M:=M.alloc (.cells #[S [105],.slice none 0 0] 63)
    have Ea:=Ea.alloc (.cells #[S [105],.slice none 0 0] 63)
    go_simp
    refine hK.out _ _ (SC.out _ (SK.out M.keep)) (fun hHeld=>nrm ?_)
    clear hK K
    obtain ⟨w2,hwA⟩:∃w2,wz.alloc (.cells #[S [105],.slice none 0 0] 63)=w2:=⟨_,rfl⟩
    rw [hwA] at M Ea Eb hHeld ⊢
    clear hwA
    obtain ⟨gb,hg⟩:∃g,wz.heap.size=g:=⟨_,rfl⟩
    rw [hg] at Eb ⊢
    exact LAST18 AL' AR' cL' cR' ga gb w2 (And.intro M (And.intro Ea Eb))
    rintro AL' AR' cL' cR' ga gb wz ⟨M,Ea,Eb⟩
    refine rd2 3 4 (fun K hK=>?_) (fun K hK=>?_)
    ·refine apT [.int .i64 kx,S nx,.int .i64 px,.slice Ax xs.length cx] M.L (fun j u h=>Ea.cells j u h) oneCellT hlm hl56 (Nat.le_trans hsz M.size) ?_
     intro AL' cL' w2 hown hg hloc
     have M:=M.appL hown hg hloc
     have Eb:=Eb.appL hg hloc
     refine hK.out _ _ (SC.out _ (SK.out M.keep)) (fun hHeld=>nrm ?_)
     clear hK K
     clear hown hg hloc
     exact LAST17 AL' AR' cL' cR' ga gb w2 (And.intro M Eb)
    have z9:=QS.out _ (M.keep _ lS nS.1 nS.2)
    go_simp
    refine hK.out _ _ (SC.out _ (SK.out M.keep)) (fun hHeld=>nrm ?_)
    clear hK K
    clear z9
    exact LAST18 AL' AR' cL' cR' ga gb wz (And.intro M (And.intro Ea Eb))
    rintro AL' AR' cL' cR' ga gb wz ⟨M,Eb⟩
    refine rd1 2 (fun K hK=>?_)
    have Ea:=Ext.new2 M #[.int .i64 kx,S nx,.int .i64 px,.slice Ax xs.length cx] 51
    have M:=M.alloc (.cells #[.int .i64 kx,S nx,.int .i64 px,.slice Ax xs.length cx] 51)
    have Eb:=Eb.alloc (.cells #[.int .i64 kx,S nx,.int .i64 px,.slice Ax xs.length cx] 51)
    go_simp
    refine hK.out _ _ (SC.out _ (SK.out M.keep)) (fun hHeld=>nrm ?_)
    clear hK K
    obtain ⟨w2,hwA⟩:∃w2,wz.alloc (.cells #[.int .i64 kx,S nx,.int .i64 px,.slice Ax xs.length cx] 51)=w2:=⟨_,rfl⟩
    rw [hwA] at M Eb Ea hHeld ⊢
    clear hwA
    obtain ⟨ga,hg⟩:∃g,wz.heap.size=g:=⟨_,rfl⟩
    rw [hg] at Ea ⊢
    exact LAST18 AL' AR' cL' cR' ga gb w2 (And.intro M (And.intro Ea Eb))
    rintro AL' AR' cL' cR' ga gb wz ⟨M,Ea,Eb⟩
    refine rd1 0 (fun K hK=>?_)
    have z8:=QV.out _ (M.keep _ lV nV.1 nV.2)
    go_simp
    refine hK.out _ _ (SC.out _ (SK.out M.keep)) (fun hHeld=>nrm ?_)
    clear hK K
    clear z8
    exact LAST18 AL' AR' cL' cR' ga gb wz (And.intro M (And.intro Ea Eb))
    rintro AL' AR' cL' cR' ga gb wz M
    refine rd1 6 (fun K hK=>?_)
    have Eb:=Ext.new2 M #[S [105],.slice none 0 0] 63
    have M:=M.alloc (.cells #[S [105],.slice none 0 0] 63)
    go_simp
    refine hK.out _ _ (SC.out _ (SK.out M.keep)) (fun hHeld=>nrm ?_)
    clear hK K
    obtain ⟨w2,hwA⟩:∃w2,wz.alloc (.cells #[S [105],.slice none 0 0] 63)=w2:=⟨_,rfl⟩
    rw [hwA] at M Eb hHeld ⊢
    clear hwA
    obtain ⟨gb,hg⟩:∃g,wz.heap.size=g:=⟨_,rfl⟩
    rw [hg] at Eb ⊢
    exact LAST19 AL' AR' cL' cR' ga gb w2 (And.intro M Eb)
    rintro AL' AR' cL' cR' ga gb wz ⟨M,Eb⟩
    refine rd1 4 (fun K hK=>?_)
    have z9:=QS.out _ (M.keep _ lS nS.1 nS.2)
    go_simp
    refine hK.out _ _ (SC.out _ (SK.out M.keep)) (fun hHeld=>nrm ?_)
    clear hK K
    clear z9
    exact LAST19 AL' AR' cL' cR' ga gb wz (And.intro M Eb)
    rintro AL' AR' cL' cR' ga gb wz ⟨M,Ea,Eb⟩
    refine rd1 3 (fun K hK=>?_)
    refine apT [.int .i64 kx,S nx,.int .i64 px,.slice Ax xs.length cx] M.L (fun j u h=>Ea.cells j u h) oneCellT hlm hl56 (Nat.le_trans hsz M.size) ?_
    intro AL' cL' w2 hown hg hloc
    have M:=M.appL hown hg hloc
    have Eb:=Eb.appL hg hloc
    refine hK.out _ _ (SC.out _ (SK.out M.keep)) (fun hHeld=>nrm ?_)
    clear hK K
    clear hown hg hloc
    exact LAST19 AL' AR' cL' cR' ga gb w2 (And.intro M Eb)
    rintro AL' AR' cL' cR' ga gb wz ⟨M,Eb⟩
    refine rd1 7 (fun K hK=>?_)
    refine apS M.R (fun j u h=>Eb.cells j u h) hlm hl40 (Nat.le_trans hsz M.size) ?_
    intro AR' cR' w2 hown hg hloc
    have M:=M.appR hown hg hloc
    refine hK.out _ _ (SC.out _ (SK.out M.keep)) (fun hHeld=>nrm ?_)
    clear hK K
    clear hown hg hloc
    exact LAST20 AL' AR' cL' cR' ga gb w2 M
    rintro AL' AR' cL' cR' ga gb wz M
    refine rd1 8 (fun K hK=>?_)
    have hqv:=(M.keep _ lV nV.1 nV.2).trans HI1.out.vb
    have hqs:=(M.keep _ lS nS.1 nS.2).trans HI1.out.ss
    have HN:=InI.push HI1.out hord.1 hord.2.1 hord.2.2.1 hord.2.2.2.1 hord.2.2.2.2.1 hord.2.2.2.2.2.1 hord.2.2.2.2.2.2.1 hord.2.2.2.2.2.2.2.1 hord.2.2.2.2.2.2.2.2.1 hord.2.2.2.2.2.2.2.2.2 HRV.out HTX.out HVAL.out M
    obtain ⟨wS1,hS1⟩:∃wS1,wz.setCell ⟨w7.heap.size,0,none⟩ (.slice AL' (k+1) cL')=wS1:=⟨_,rfl⟩
    obtain ⟨wS2,hS2⟩:∃wS2,wS1.setCell ⟨w8.heap.size,0,none⟩ (.slice AR' (k+1) cR')=wS2:=⟨_,rfl⟩
    rw [hS1,hS2] at HN
    have HNH:=zH HN
    have hoS1:Oth w7.heap.size wz wS1:=by rw [←hS1];exact Oth.set _ _
    have hoS2:Oth w8.heap.size wS1 wS2:=by rw [←hS2];exact Oth.set _ _
    have c8:=(zC hqv 0:wz.cell? ⟨w7.heap.size,0,none⟩=some (.slice A k c))
    have f8:=zF hqv 0
    have hqs1:=(hoS1.block w8.heap.size (Nat.lt_of_lt_of_le lS M.size) (fun e=>nVS (zO e).symm)).trans hqs
    have c9:=(zC hqs1 0:wS1.cell? ⟨w8.heap.size,0,none⟩=some (.slice B k d))
    have f9:=zF hqs1 0
    have k7:=(hoS1.block _ (Nat.lt_of_lt_of_le lvB M.size) (fun e=>nvV (zO e))).trans (M.keep _ lvB nvB.1 nvB.2)
    have k8:=(hoS1.block _ (Nat.lt_of_lt_of_le lsB M.size) (fun e=>nsV (zO e))).trans (M.keep _ lsB nsB.1 nsB.2)
    clear HN
    go_simp
    refine hK.out _ _ (SC.out _ ⟨k7,k8⟩) (fun hHeld=>nrm ?_)
    clear hK K
    refine rd1 9 (fun K hK=>?_)
    have k7':=(hoS2.block _ (Nat.lt_of_lt_of_le (Nat.lt_of_lt_of_le lvB M.size) hoS1.size) (fun e=>nvS (zO e))).trans k7
    have k8':=(hoS2.block _ (Nat.lt_of_lt_of_le (Nat.lt_of_lt_of_le lsB M.size) hoS1.size) (fun e=>nsS (zO e))).trans k8
    go_simp
    refine hK.out _ _ (SC.out _ ⟨k7',k8'⟩) (fun hHeld=>nrm ?_)
    clear hK K
    clear hqv hqs hqs1 hoS1 hoS2 c8 f8 c9 f9 k7 k8 k7' k8' hS1 hS2
    refine wpAnyH_done (by kernel_rfl) ?_ _
    go_wp2_with fail
    go_roundw
    case rel=>exact ⟨k+1,_,_,_,_,_,by omega,by go_num,HNH⟩
    case measure=>simp [intOf];omega
   have hkn:nk=k:=by omega
   subst hkn
   obtain ⟨wv,hwv⟩:∃wv,wv=wr:=⟨_,rfl⟩
   subst hwv
   obtain ⟨hV,hTV,hAN,hSV⟩:=HI.out.done LN.out.2.2.2
   have hvl:=HI.out.len
   have V:=zH hV
   have BV:=zH HI.out.bel
   have KV:Hid (∀W,Below wv.heap.size wv W→Below w3.heap.size w3 W):=zH (fun W hb=>K5.out _ (BV.out.trans (hb.mono BV.out.size)))
   have lVb:=zL HI.out.vb
   have lSb:=zL HI.out.ss
   have cVb:=(zC HI.out.vb 0:wv.cell? ⟨w7.heap.size,0,none⟩=some (.slice A nk c))
   have cSb:=(zC HI.out.ss 0:wv.cell? ⟨w8.heap.size,0,none⟩=some (.slice B nk d))
   have g9:w2.heap.size<wv.heap.size:=by have:=HORD.out.2.1;omega
   have w35:w3.heap.size≤wv.heap.size:=by have:=HB5.out.size;have:=HORD.out.2.1;omega
   have SUB:Hid (∀ (W:World) (t:Lfc.Raw) (v:Value),Below wv.heap.size wv W→t.size≤40→t.isO=true→TreeV W t v→Calls Tryz.prog 25 #[v,.pointer (some ⟨w2.heap.size,0,none⟩),.pointer (some ⟨w7.heap.size,0,none⟩),.pointer (some ⟨w8.heap.size,0,none⟩)] W (SubAns W (fun x=>Lfc.sbR vs t x 0))):=zH (fun W t v hb hz ho hv=>by
    refine oInst1_any ks vs V.out (by omega) (fun x hx=>?_) A B A0 c d c0 w2.heap.size w7.heap.size w8.heap.size (by rw [hvl];exact hAN) t v W (by omega) ho hv (hTV.below hb) (by rw [hvl];exact hSV.below hb) (by rw [LN.out.2.2.2];exact zC (QC.out _ (KV.out _ hb)) 10) (Nat.lt_of_lt_of_le g9 hb.size) (by rw [hvl];exact (hb.cell (p:=⟨w7.heap.size,0,none⟩) lVb).trans cVb) (Nat.lt_of_lt_of_le lVb hb.size) (by rw [hvl];exact (hb.cell (p:=⟨w8.heap.size,0,none⟩) lSb).trans cSb) (Nat.lt_of_lt_of_le lSb hb.size)
    obtain ⟨i,hi,rfl⟩:=List.getElem_of_mem hx
    by_cases hf:Lfc.kindOf ks (i:Int)=1
    ·have:=(V.out.flx i hi hf).2;omega
    rw [V.out.rig i hi hf,Lfc.vv,Lfc.Raw.size,Lfc.Raw.sizes];omega)
   have I0:Hid (FI wv vs fs 0 [] none 0 wv):=zH (FI.start wv vs fs)
   clear HI hV hTV hAN hSV hvl cVb cSb lVb lSb hlt
   go_wp2_with fail
   clear y10
   go_loopw [15,16] (fun s i wr=>∃ (j:Nat) (gs:List Lfc.Fact) (F:Option Addr) (c:Nat),j≤nf∧s=.slice F j c∧i=.int .i64 (j:Int)∧Hid (FI wv vs fs j gs F c wr)) (fun _ i _=>nf-(intOf i).toNat)
   case atStart=>exact ⟨0,[],none,0,by omega,rfl,rfl,I0⟩
   clear I0
   obtain ⟨j,gs,F,c,hj,rfl,rfl,HI⟩:=hrel
   have hBW:=HI.out.bel
   have sW:=hBW.size
   have y0:=(zC (QC.out _ (KV.out _ hBW)) 0:wr.cell? ⟨w2.heap.size,0,none⟩=some (.slice F0 nf f0))
   by_cases hlt:j<nf
   ·have hlt1:(j:Int)<(nf:Int):=by omega
    have hj0:(0:Int)≤(j:Int):=by omega
    have hji:j<fs.length:=by rw [LN.out.1];exact hlt
    obtain ⟨fb,fo,hF0,hfb,_,kl,nl,pl,xl,Al,cl',kr,nr,pr,xr,Ar,cr',e1,e2,hg03,hg4,hg58,hvl,hvr⟩:=FP.out.at_ hji
    obtain rfl:F0=some ⟨fb,fo,none⟩:=hF0
    obtain ⟨f,hf⟩:∃f,fs[j]=f:=⟨_,rfl⟩
    have HFJ:Hid (∃h:j<fs.length,fs[j]=f):=zH ⟨hji,hf⟩
    have hfm:f∈fs:=by rw [←hf];exact List.getElem_mem _
    rw [hf] at e1 e2 hg4 hvl hvr
    obtain ⟨fr,hfr⟩:∃fr,f.rel=fr:=⟨_,rfl⟩
    rw [hfr] at hg4
    have FC:Hid (∀W,Below wv.heap.size wv W→(W.cell? ⟨w2.heap.size,0,none⟩=some (.slice (some ⟨fb,fo,none⟩) nf f0))∧(W.cell? ⟨fb,fo+j*9,none⟩=some (.int .i64 kl)∧W.cell? ⟨fb,fo+j*9+1,none⟩=some (S nl)∧W.cell? ⟨fb,fo+j*9+2,none⟩=some (.int .i64 pl)∧W.cell? ⟨fb,fo+j*9+3,none⟩=some (.slice Al xl.length cl'))∧W.cell? ⟨fb,fo+j*9+4,none⟩=some (.int .i64 fr)∧(W.cell? ⟨fb,fo+j*9+5,none⟩=some (.int .i64 kr)∧W.cell? ⟨fb,fo+j*9+6,none⟩=some (S nr)∧W.cell? ⟨fb,fo+j*9+7,none⟩=some (.int .i64 pr)∧W.cell? ⟨fb,fo+j*9+8,none⟩=some (.slice Ar xr.length cr'))):=zH (fun W hb=>by
     have hc:∀i v,w3.cell? ⟨fb,i,none⟩=some v→W.cell? ⟨fb,i,none⟩=some v:=fun i v h=>((KV.out _ hb).cell (p:=⟨fb,i,none⟩) hfb).trans h
     exact ⟨zC (QC.out _ (KV.out _ hb)) 0,⟨hc _ _ hg03.1,hc _ _ hg03.2.1,hc _ _ hg03.2.2.1,hc _ _ hg03.2.2.2⟩,hc _ _ hg4,⟨hc _ _ hg58.1,hc _ _ hg58.2.1,hc _ _ hg58.2.2.1,hc _ _ hg58.2.2.2⟩⟩)
    obtain ⟨ra,hra⟩:∃ra:Lfc.Raw→Prop,(fun x=>Lfc.sbR vs f.l x 0)=ra:=⟨_,rfl⟩
    obtain ⟨rb,hrb⟩:∃rb:Lfc.Raw→Prop,(fun x=>Lfc.sbR vs f.r x 0)=rb:=⟨_,rfl⟩
    have RAB:Hid ((∀x,ra x→Lfc.sbR vs f.l x 0)∧(∀x,rb x→Lfc.sbR vs f.r x 0)):=zH ⟨fun x h=>by rw [←hra] at h;exact h,fun x h=>by rw [←hrb] at h;exact h⟩
    have CA:Hid (∀W,Below wv.heap.size wv W→Calls Tryz.prog 25 #[.agg #[.int .i64 kl,S nl,.int .i64 pl,.slice Al xl.length cl'],.pointer (some ⟨w2.heap.size,0,none⟩),.pointer (some ⟨w7.heap.size,0,none⟩),.pointer (some ⟨w8.heap.size,0,none⟩)] W (SubAns W ra)):=zH (fun W hb=>by
     rw [←hra]
     exact SUB.out W _ _ hb (SZ.out.1 f hfm).1 (OB.out.1 f hfm).1 (hvl.toV.below (KV.out _ hb)))
    have CB:Hid (∀W,Below wv.heap.size wv W→Calls Tryz.prog 25 #[.agg #[.int .i64 kr,S nr,.int .i64 pr,.slice Ar xr.length cr'],.pointer (some ⟨w2.heap.size,0,none⟩),.pointer (some ⟨w7.heap.size,0,none⟩),.pointer (some ⟨w8.heap.size,0,none⟩)] W (SubAns W rb)):=zH (fun W hb=>by
     rw [←hrb]
     exact SUB.out W _ _ hb (SZ.out.1 f hfm).2 (OB.out.1 f hfm).2 (hvr.toV.below (KV.out _ hb)))
    have HFR:=zH hfr
    clear hf hfm hfr hra hrb e1 e2 hg03 hg4 hg58 hvl hvr y0
    obtain ⟨y0,⟨d0,d1,d2,d3⟩,d4,d5⟩:=FC.out _ hBW
    go_wp2_with fail
    clear y0 d0 d1 d2 d3 d4 d5
    refine (CA.out _ hBW).mono ?_
    rintro e wa ⟨⟨ka,pa,na,xa,Aa,ca,ba,rfl,hva,hra⟩,ua⟩
    obtain ⟨waa,hwaa⟩:∃waa,wa.alloc (.cells #[.int .i64 ka,S na,.int .i64 pa,.slice Aa xa.length ca] 51)=waa:=⟨_,rfl⟩
    have ma:=zG hwaa
    have qa:=zQ hwaa
    have sa:=ua.size
    have saa:=ma.size
    have la:=zL qa
    have hva':=hva.keep (w':=waa) (q':=fun b=>wr.heap.size≤b) (fun b _ hlt=>ma.block b hlt) ma.size (fun _ _ h=>h)
    have HVa0:=zH hva'
    have HRa:=zH hra
    have Qa:=zH qa
    have HWa:=zH hwaa
    have Na:=zH (ua.trans (ma.mono ua.size))
    clear hva hva' hra qa hwaa ua ma
    have BA:=zH (hBW.trans (Na.out.mono sW))
    go_upto_region 26 with fail
    rw [HWa.out]
    clear HWa
    obtain ⟨y0,d0,d4,d5,d6,d7,d8⟩:=FC.out _ BA.out
    go_wp2_with fail
    clear y0 d0 d4 d5 d6 d7 d8
    refine (CB.out _ BA.out).mono ?_
    rintro e wb ⟨⟨kb,pb,nb,xb,Ab,cb,bb,rfl,hvb,hrb⟩,ub⟩
    obtain ⟨wbb,hwbb⟩:∃wbb,wb.alloc (.cells #[.int .i64 kb,S nb,.int .i64 pb,.slice Ab xb.length cb] 51)=wbb:=⟨_,rfl⟩
    have mb:=zG hwbb
    have qb:=zQ hwbb
    have sb:=ub.size
    have sbb:=mb.size
    have lb:=zL qb
    have hvb':=hvb.keep (w':=wbb) (q':=fun b=>waa.heap.size≤b) (fun b _ hlt=>mb.block b hlt) mb.size (fun _ _ h=>h)
    have HVb0:=zH hvb'
    have HRb:=zH hrb
    have Qb:=zH qb
    have HWb:=zH hwbb
    have Nb:=zH (ub.trans (mb.mono ub.size))
    clear hvb hvb' hrb qb hwbb ub mb
    have BB:=zH (BA.out.trans (Nb.out.mono BA.out.size))
    go_upto_region 27 with fail
    rw [HWb.out]
    clear HWb
    have KW:Hid (∀W,Below wbb.heap.size wbb W→Below w.heap.size w W):=zH (fun W hb=>UP.out _ (KV.out _ (BB.out.trans (hb.mono BB.out.size))))
    cases ba with
    | false =>
     go_wp2_with fail
     refine (oAwake_any _).mono ?_
     rintro e w99 ⟨rfl,b99⟩
     go_wp2_with fail
     go_ret
     exact ⟨rfl,KW.out _ b99⟩
    | true =>
     cases bb with
     | false =>
      go_wp2_with fail
      refine (oAwake_any _).mono ?_
      rintro e w99 ⟨rfl,b99⟩
      go_wp2_with fail
      go_ret
      exact ⟨rfl,KW.out _ b99⟩
     | true =>
      have FIB:=zH (HI.out.below (Na.out.trans (Nb.out.mono (by omega))))
      obtain ⟨_,rr1,_⟩:=HI.out.row
      have hown:∀b,wr.heap.size≤b→(wv.heap.size≤b∧(Value.slice F j c).ownBlock≠some b):=fun b hb=>⟨by omega,fun e=>by have:=(rr1.lt b e).2;omega⟩
      have HVA:=zH (HVa0.out.keep (w':=wbb) (fun b _ hlt=>Nb.out.block b hlt) Nb.out.size (fun b _ hb=>hown b hb))
      have HVB:=zH (HVb0.out.keep (w:=wbb) (w':=wbb) (fun _ _ _=>rfl) (zN _) (fun b _ hb=>hown b (by have hb:waa.heap.size≤b:=hb;omega)))
      have HRL:Hid (fr=f.rel∧Lfc.sbR vs f.l (.node ka na pa xa) 0∧Lfc.sbR vs f.r (.node kb nb pb xb) 0):=zH ⟨HFR.out.symm,RAB.out.1 _ (HRa.out rfl),RAB.out.2 _ (HRb.out rfl)⟩
      have oA:=(hown wa.heap.size (by omega)).2
      have oB:=(hown wb.heap.size (by omega)).2
      have oQ:(Value.slice F j c).ownBlock≠some w2.heap.size:=fun e=>by have:=(rr1.lt _ e).1;omega
      have oF:(Value.slice F j c).ownBlock≠some fb:=fun e=>by have:=(rr1.lt _ e).1;omega
      have SC:Hid (∀W:World,(∀b,b<wbb.heap.size→(Value.slice F j c).ownBlock≠some b→W.heap[b]?=wbb.heap[b]?)→((W.cell? ⟨wa.heap.size,0,none⟩=some (.int .i64 ka)∧W.cell? ⟨wa.heap.size,1,none⟩=some (S na)∧W.cell? ⟨wa.heap.size,2,none⟩=some (.int .i64 pa)∧W.cell? ⟨wa.heap.size,3,none⟩=some (.slice Aa xa.length ca))∧(W.cell? ⟨wb.heap.size,0,none⟩=some (.int .i64 kb)∧W.cell? ⟨wb.heap.size,1,none⟩=some (S nb)∧W.cell? ⟨wb.heap.size,2,none⟩=some (.int .i64 pb)∧W.cell? ⟨wb.heap.size,3,none⟩=some (.slice Ab xb.length cb))∧W.cell? ⟨w2.heap.size,0,none⟩=some (.slice (some ⟨fb,fo,none⟩) nf f0)∧W.cell? ⟨fb,fo+j*9+4,none⟩=some (.int .i64 fr))):=zH (fun W hW=>⟨cells4t ((hW _ (by omega) oA).trans ((Nb.out.block _ la).trans Qa.out)),cells4t ((hW _ lb oB).trans Qb.out),(World.cell?_of_block (a:=⟨w2.heap.size,0,none⟩) (hW w2.heap.size (by omega) oQ)).trans (FC.out _ BB.out).1,(World.cell?_of_block (a:=⟨fb,fo+j*9+4,none⟩) (hW fb (by omega) oF)).trans (FC.out _ BB.out).2.2.1⟩)
      have hlm:j+1≤maxLen:=by unfold maxLen;omega
      have hl120:(j+1)*120≤140737488355328:=by omega
      clear rr1 hown
      go_upto_region 29 with fail
      refine wp_region_held_drew (S:=fun W=>((W.cell? ⟨wa.heap.size,0,none⟩=some (.int .i64 ka)∧W.cell? ⟨wa.heap.size,1,none⟩=some (S na)∧W.cell? ⟨wa.heap.size,2,none⟩=some (.int .i64 pa)∧W.cell? ⟨wa.heap.size,3,none⟩=some (.slice Aa xa.length ca))∧(W.cell? ⟨wb.heap.size,0,none⟩=some (.int .i64 kb)∧W.cell? ⟨wb.heap.size,1,none⟩=some (S nb)∧W.cell? ⟨wb.heap.size,2,none⟩=some (.int .i64 pb)∧W.cell? ⟨wb.heap.size,3,none⟩=some (.slice Ab xb.length cb))∧W.cell? ⟨w2.heap.size,0,none⟩=some (.slice (some ⟨fb,fo,none⟩) nf f0)∧W.cell? ⟨fb,fo+j*9+4,none⟩=some (.int .i64 fr))) (by kernel_rfl) ?_ (fun hHeld=>?_)
      ·exact SC.out _ (fun b _ _=>rfl)
      obtain ⟨wz,hwz⟩:∃wz,wbb.drew=wz:=⟨_,rfl⟩
      have BZ:Below wbb.heap.size wbb wz:=by rw [←hwz];exact (zB wbb.heap.size wbb).drew
      rw [hwz] at hHeld ⊢
      clear hwz
      have FZ:=FIB.out.below BZ
      obtain ⟨xF,rF1,rF2⟩:=FZ.row
      have KA:∀b,b<wbb.heap.size→(wz.alloc (.cells #[.int .i64 ka,S na,.int .i64 pa,.slice Aa xa.length ca,.int .i64 fr,.int .i64 kb,S nb,.int .i64 pb,.slice Ab xb.length cb] 70)).heap[b]?=wbb.heap[b]?:=fun b hb=>(zA _ _ _ (Nat.lt_of_lt_of_le hb BZ.size)).trans (BZ.block b hb)
      refine tk 0 ?_
      refine tk 1 ?_
      refine tk 2 ?_
      refine tk 3 ?_
      refine tk 4 ?_
      refine tk 5 ?_
      refine tk 6 ?_
      refine tk 7 ?_
      refine tk 8 ?_
      refine tk 9 ?_
      refine rd1 10 (fun K hK=>?_)
      go_simp
      refine hK.out _ _ (SC.out _ (fun b hb _=>KA b hb)) (fun hHeld=>nrm ?_)
      clear hK K
      refine rd1 11 (fun K hK=>?_)
      refine apF [.int .i64 ka,S na,.int .i64 pa,.slice Aa xa.length ca,.int .i64 fr,.int .i64 kb,S nb,.int .i64 pb,.slice Ab xb.length cb] (rF1.alloc _) (fun jj u h=>ocells_new wz _ rfl [.int .i64 ka,S na,.int .i64 pa,.slice Aa xa.length ca,.int .i64 fr,.int .i64 kb,S nb,.int .i64 pb,.slice Ab xb.length cb] 70 jj u h) oneCell9 hlm hl120 (oalloc_le FZ.bel.size) ?_
      intro F9 c9 w9' hown9 hg9 hloc9
      have HN:Hid (FI wv vs fs (j+1) (gs++[⟨.node ka na pa xa,fr,.node kb nb pb xb⟩]) F9 c9 w9'):=zH (FI.push FZ HFJ.out rF1 rF2 ⟨rfl,rfl⟩ (HVA.out.keep (w:=wbb) (fun b _ hlt=>BZ.block b hlt) BZ.size (fun _ _ h=>h)) (HVB.out.keep (w:=wbb) (fun b _ hlt=>BZ.block b hlt) BZ.size (fun _ _ h=>h)) HRL.out hown9 hg9 (oalloc_loc hloc9))
      have KB:∀b,b<wbb.heap.size→(Value.slice F j c).ownBlock≠some b→w9'.heap[b]?=wbb.heap[b]?:=fun b hb hn=>(hg9.block b (by have:=BZ.size;simp;omega) (fun e=>hn e.symm)).trans (KA b hb)
      clear hown9 hg9 hloc9
      refine hK.out _ _ (SC.out _ KB) (fun hHeld=>nrm ?_)
      clear hK K
      refine tk 12 ?_
      refine wpAnyH_done (by kernel_rfl) ?_ _
      go_wp2_with fail
      go_roundw
      case rel=>exact ⟨j+1,_,_,_,by omega,rfl,by go_num,HN⟩
      case measure=>simp [intOf];omega
   have hjn:nf=j:=by omega
   subst hjn
   obtain ⟨wf,hwf⟩:∃wf,wf=wr:=⟨_,rfl⟩
   subst hwf
   have KF:Hid (∀W,Below wf.heap.size wf W→Below wv.heap.size wv W):=zH (fun W hb=>hBW.trans (hb.mono hBW.size))
   have HF:=zH HI.out
   have I0:Hid (LI wf vs ts us 0 [] [] none 0 none 0 wf):=zH (LI.start wf vs ts us)
   clear HI hlt
   go_wp2_with fail
   clear y0
   go_loopw [21,22,23] (fun s t i wr=>∃ (k:Nat) (vx vy:List Lfc.Raw) (GA:Option Addr) (gc:Nat) (GB:Option Addr) (gd:Nat),k≤n∧s=.slice GA k gc∧t=.slice GB k gd∧i=.int .i64 (k:Int)∧Hid (LI wf vs ts us k vx vy GA gc GB gd wr)) (fun _ _ i _=>n-(intOf i).toNat)
   case atStart=>exact ⟨0,[],[],none,0,none,0,by omega,rfl,rfl,rfl,I0⟩
   clear I0
   obtain ⟨i,vx,vy,GA,gc,GB,gd,hi,rfl,rfl,rfl,HI⟩:=hrel
   have hBF:=HI.out.bel
   have sF:=hBF.size
   have hB3:=KV.out _ (KF.out _ hBF)
   have y8:=(zC (QC.out _ hB3) 8:wr.cell? ⟨w2.heap.size,8,none⟩=some (.slice L n cl))
   by_cases hlt:i<n
   ·have hlt1:(i:Int)<(n:Int):=by omega
    have hi0:(0:Int)≤(i:Int):=by omega
    have hti:i<ts.length:=by rw [LN.out.2.1];exact hlt
    have hui:i<us.length:=by rw [LN.out.2.2.1];exact hlt
    obtain ⟨lb',lo,kl,nl,pl,xl,Al,cl',hL0,hLb,_,ht,d0,d1,d2,d3,hvl⟩:=TP.out.1.at_ hti
    obtain rfl:L=some ⟨lb',lo,none⟩:=hL0
    obtain ⟨rb',ro,kr,nr,pr,xr,Ar,cr',hR0,hRb,_,hu,e0,e1,e2,e3,hvr⟩:=TP.out.2.at_ hui
    obtain rfl:R=some ⟨rb',ro,none⟩:=hR0
    have htm:ts[i]∈ts:=List.getElem_mem _
    have hum:us[i]∈us:=List.getElem_mem _
    have htz:=And.intro (SZ.out.2.1 _ htm) (OB.out.2.1 _ htm)
    have huz:=And.intro (SZ.out.2.2 _ hum) (OB.out.2.2 _ hum)
    have HTK:Hid (∃h:i<ts.length,ts[i]=.node kl nl pl xl):=zH ⟨hti,ht⟩
    have HUK:Hid (∃h:i<us.length,us[i]=.node kr nr pr xr):=zH ⟨hui,hu⟩
    rw [ht] at htz
    rw [hu] at huz
    have FC:Hid (∀W,Below wv.heap.size wv W→(W.cell? ⟨w2.heap.size,8,none⟩=some (.slice (some ⟨lb',lo,none⟩) n cl)∧W.cell? ⟨w2.heap.size,9,none⟩=some (.slice (some ⟨rb',ro,none⟩) n cr))∧(W.cell? ⟨lb',lo+i*4,none⟩=some (.int .i64 kl)∧W.cell? ⟨lb',lo+i*4+1,none⟩=some (S nl)∧W.cell? ⟨lb',lo+i*4+2,none⟩=some (.int .i64 pl)∧W.cell? ⟨lb',lo+i*4+3,none⟩=some (.slice Al xl.length cl'))∧(W.cell? ⟨rb',ro+i*4,none⟩=some (.int .i64 kr)∧W.cell? ⟨rb',ro+i*4+1,none⟩=some (S nr)∧W.cell? ⟨rb',ro+i*4+2,none⟩=some (.int .i64 pr)∧W.cell? ⟨rb',ro+i*4+3,none⟩=some (.slice Ar xr.length cr'))):=zH (fun W hb=>by
     have hc1:∀i v,w3.cell? ⟨lb',i,none⟩=some v→W.cell? ⟨lb',i,none⟩=some v:=fun i v h=>((KV.out _ hb).cell (p:=⟨lb',i,none⟩) hLb).trans h
     have hc2:∀i v,w3.cell? ⟨rb',i,none⟩=some v→W.cell? ⟨rb',i,none⟩=some v:=fun i v h=>((KV.out _ hb).cell (p:=⟨rb',i,none⟩) hRb).trans h
     exact ⟨⟨zC (QC.out _ (KV.out _ hb)) 8,zC (QC.out _ (KV.out _ hb)) 9⟩,⟨hc1 _ _ d0,hc1 _ _ d1,hc1 _ _ d2,hc1 _ _ d3⟩,⟨hc2 _ _ e0,hc2 _ _ e1,hc2 _ _ e2,hc2 _ _ e3⟩⟩)
    obtain ⟨ra,hra⟩:∃ra:Lfc.Raw→Prop,(fun x=>Lfc.sbR vs (.node kl nl pl xl) x 0)=ra:=⟨_,rfl⟩
    obtain ⟨rb,hrb⟩:∃rb:Lfc.Raw→Prop,(fun x=>Lfc.sbR vs (.node kr nr pr xr) x 0)=rb:=⟨_,rfl⟩
    have RAB:Hid ((∀x,ra x→Lfc.sbR vs (.node kl nl pl xl) x 0)∧(∀x,rb x→Lfc.sbR vs (.node kr nr pr xr) x 0)):=zH ⟨fun x h=>by rw [←hra] at h;exact h,fun x h=>by rw [←hrb] at h;exact h⟩
    have CA:Hid (∀W,Below wv.heap.size wv W→Calls Tryz.prog 25 #[.agg #[.int .i64 kl,S nl,.int .i64 pl,.slice Al xl.length cl'],.pointer (some ⟨w2.heap.size,0,none⟩),.pointer (some ⟨w7.heap.size,0,none⟩),.pointer (some ⟨w8.heap.size,0,none⟩)] W (SubAns W ra)):=zH (fun W hb=>by
     rw [←hra]
     exact SUB.out W _ _ hb htz.1 htz.2 (hvl.toV.below (KV.out _ hb)))
    have CB:Hid (∀W,Below wv.heap.size wv W→Calls Tryz.prog 25 #[.agg #[.int .i64 kr,S nr,.int .i64 pr,.slice Ar xr.length cr'],.pointer (some ⟨w2.heap.size,0,none⟩),.pointer (some ⟨w7.heap.size,0,none⟩),.pointer (some ⟨w8.heap.size,0,none⟩)] W (SubAns W rb)):=zH (fun W hb=>by
     rw [←hrb]
     exact SUB.out W _ _ hb huz.1 huz.2 (hvr.toV.below (KV.out _ hb)))
    clear htm hum htz huz ht hu hra hrb d0 d1 d2 d3 e0 e1 e2 e3 hvl hvr y8 hB3
    obtain ⟨⟨y8,y9⟩,⟨d0,d1,d2,d3⟩,d4⟩:=FC.out _ (KF.out _ hBF)
    go_wp2_with fail
    clear y8 y9 d0 d1 d2 d3 d4
    refine (CA.out _ (KF.out _ hBF)).mono ?_
    rintro e wa ⟨⟨ka,pa,na,xa,Aa,ca,ba,rfl,hva,hra⟩,ua⟩
    obtain ⟨waa,hwaa⟩:∃waa,wa.alloc (.cells #[.int .i64 ka,S na,.int .i64 pa,.slice Aa xa.length ca] 51)=waa:=⟨_,rfl⟩
    have ma:=zG hwaa
    have qa:=zQ hwaa
    have sa:=ua.size
    have saa:=ma.size
    have la:=zL qa
    have hva':=hva.keep (w':=waa) (q':=fun b=>wr.heap.size≤b) (fun b _ hlt=>ma.block b hlt) ma.size (fun _ _ h=>h)
    have HVa0:=zH hva'
    have HRa:=zH hra
    have Qa:=zH qa
    have HWa:=zH hwaa
    have Na:=zH (ua.trans (ma.mono ua.size))
    clear hva hva' hra qa hwaa ua ma
    have BA:=zH ((KF.out _ hBF).trans (Na.out.mono (KF.out _ hBF).size))
    go_upto_region 35 with fail
    rw [HWa.out]
    clear HWa
    obtain ⟨⟨y8,y9⟩,d4,d5,d6,d7,d8⟩:=FC.out _ BA.out
    go_wp2_with fail
    clear y8 y9 d4 d5 d6 d7 d8
    refine (CB.out _ BA.out).mono ?_
    rintro e wb ⟨⟨kb,pb,nb,xb,Ab,cb,bb,rfl,hvb,hrb⟩,ub⟩
    obtain ⟨wbb,hwbb⟩:∃wbb,wb.alloc (.cells #[.int .i64 kb,S nb,.int .i64 pb,.slice Ab xb.length cb] 51)=wbb:=⟨_,rfl⟩
    have mb:=zG hwbb
    have qb:=zQ hwbb
    have sb:=ub.size
    have sbb:=mb.size
    have lb:=zL qb
    have hvb':=hvb.keep (w':=wbb) (q':=fun b=>waa.heap.size≤b) (fun b _ hlt=>mb.block b hlt) mb.size (fun _ _ h=>h)
    have HVb0:=zH hvb'
    have HRb:=zH hrb
    have Qb:=zH qb
    have HWb:=zH hwbb
    have Nb:=zH (ub.trans (mb.mono ub.size))
    clear hvb hvb' hrb qb hwbb ub mb
    have BB:=zH (BA.out.trans (Nb.out.mono BA.out.size))
    go_upto_region 36 with fail
    rw [HWb.out]
    clear HWb
    have KW:Hid (∀W,Below wbb.heap.size wbb W→Below w.heap.size w W):=zH (fun W hb=>UP.out _ (KV.out _ (BB.out.trans (hb.mono BB.out.size))))
    cases ba with
    | false =>
     go_wp2_with fail
     refine (oAwake_any _).mono ?_
     rintro e w99 ⟨rfl,b99⟩
     go_wp2_with fail
     go_ret
     exact ⟨rfl,KW.out _ b99⟩
    | true =>
     cases bb with
     | false =>
      go_wp2_with fail
      refine (oAwake_any _).mono ?_
      rintro e w99 ⟨rfl,b99⟩
      go_wp2_with fail
      go_ret
      exact ⟨rfl,KW.out _ b99⟩
     | true =>
      have hLB:=HI.out.below (Na.out.trans (Nb.out.mono (by omega)))
      obtain ⟨_,_,rr1,rr2,_⟩:=HI.out.rows
      obtain ⟨xA,xB,r1,r2,r3,r4⟩:=hLB.rows
      have hown:∀b,wr.heap.size≤b→(wf.heap.size≤b∧(Value.slice GA i gc).ownBlock≠some b∧(Value.slice GB i gd).ownBlock≠some b):=fun b hb=>⟨by omega,fun e=>by have:=(rr1.lt b e).2;omega,fun e=>by have:=(rr2.lt b e).2;omega⟩
      have hva:=HVa0.out.keep (w':=wbb) (fun b _ hlt=>Nb.out.block b hlt) Nb.out.size (fun b _ hb=>hown b hb)
      have hvb:=HVb0.out.keep (w:=wbb) (w':=wbb) (fun _ _ _=>rfl) (zN _) (fun b _ hb=>hown b (by have hb:waa.heap.size≤b:=hb;omega))
      obtain ⟨_,_,_,_,e,hTA⟩:=hva
      cases e
      obtain ⟨_,_,_,_,e,hTB⟩:=hvb
      cases e
      have HTA:=zH hTA
      have HTB:=zH hTB
      have HSA:=zH (RAB.out.1 _ (HRa.out rfl))
      have HSB:=zH (RAB.out.2 _ (HRb.out rfl))
      have LB:=zH hLB
      have HRA:=zH r3
      have HRB:=zH r4
      have M00:=Mid2.start r1 r2 hLB.dj
      have nA:=(hown wa.heap.size (by omega)).2
      have nB:=(hown wb.heap.size (by omega)).2
      have la':wa.heap.size<wbb.heap.size:=by omega
      have SC:Hid (∀W:World,W.heap[wa.heap.size]?=wbb.heap[wa.heap.size]?∧W.heap[wb.heap.size]?=wbb.heap[wb.heap.size]?→((W.cell? ⟨wa.heap.size,0,none⟩=some (.int .i64 ka)∧W.cell? ⟨wa.heap.size,1,none⟩=some (S na)∧W.cell? ⟨wa.heap.size,2,none⟩=some (.int .i64 pa)∧W.cell? ⟨wa.heap.size,3,none⟩=some (.slice Aa xa.length ca))∧(W.cell? ⟨wb.heap.size,0,none⟩=some (.int .i64 kb)∧W.cell? ⟨wb.heap.size,1,none⟩=some (S nb)∧W.cell? ⟨wb.heap.size,2,none⟩=some (.int .i64 pb)∧W.cell? ⟨wb.heap.size,3,none⟩=some (.slice Ab xb.length cb)))):=zH (fun W ⟨h1,h2⟩=>⟨cells4t (h1.trans ((Nb.out.block _ la).trans Qa.out)),cells4t (h2.trans Qb.out)⟩)
      have SK:Hid (∀ {W:World},(∀b,b<wbb.heap.size→(Value.slice GA i gc).ownBlock≠some b→(Value.slice GB i gd).ownBlock≠some b→W.heap[b]?=wbb.heap[b]?)→W.heap[wa.heap.size]?=wbb.heap[wa.heap.size]?∧W.heap[wb.heap.size]?=wbb.heap[wb.heap.size]?):=zH (fun h=>⟨h _ la' nA.1 nA.2,h _ lb nB.1 nB.2⟩)
      have hsz:=hLB.bel.size
      have hlm:i+1≤maxLen:=by unfold maxLen;omega
      have hl56:(i+1)*56≤140737488355328:=by omega
      clear rr1 rr2 r1 r2 r3 r4 hown hTA hTB hLB la
      have la:=la'
      clear la'
      go_upto_region 38 with fail
      refine wp_region_held_drew (S:=fun W=>((W.cell? ⟨wa.heap.size,0,none⟩=some (.int .i64 ka)∧W.cell? ⟨wa.heap.size,1,none⟩=some (S na)∧W.cell? ⟨wa.heap.size,2,none⟩=some (.int .i64 pa)∧W.cell? ⟨wa.heap.size,3,none⟩=some (.slice Aa xa.length ca))∧(W.cell? ⟨wb.heap.size,0,none⟩=some (.int .i64 kb)∧W.cell? ⟨wb.heap.size,1,none⟩=some (S nb)∧W.cell? ⟨wb.heap.size,2,none⟩=some (.int .i64 pb)∧W.cell? ⟨wb.heap.size,3,none⟩=some (.slice Ab xb.length cb)))) (by kernel_rfl) ?_ (fun hHeld=>?_)
      ·exact SC.out _ ⟨rfl,rfl⟩
      have M:=M00
      clear M00
      apply shareA
      intro LAST6
      apply shareA
      intro LAST5
      apply shareA
      intro LAST4
      apply shareA
      intro LAST3
      apply shareA
      intro LAST2
      apply shareA
      intro LAST1
      obtain ⟨AL',AR',cL',cR',ga,gb,-⟩:∃ (_ _:Option Addr) (_ _ _ _:Nat),True:=⟨none,none,0,0,0,0,trivial⟩
      obtain ⟨wz,hwz⟩:∃wz,wbb.drew=wz:=⟨_,rfl⟩
      rw [hwz] at M hHeld ⊢
      clear hwz
      refine tk 0 ?_
      refine tk 1 ?_
      refine tk 4 ?_
      refine tk 5 ?_
      refine rd2 2 6 (fun K hK=>?_) (fun K hK=>?_)
      ·have Ea:=Ext.new2 M #[.int .i64 ka,S na,.int .i64 pa,.slice Aa xa.length ca] 51
       have M:=M.alloc (.cells #[.int .i64 ka,S na,.int .i64 pa,.slice Aa xa.length ca] 51)
       go_simp
       refine hK.out _ _ (SC.out _ (SK.out M.keep)) (fun hHeld=>nrm ?_)
       clear hK K
       obtain ⟨w2',hwA⟩:∃w2',wz.alloc (.cells #[.int .i64 ka,S na,.int .i64 pa,.slice Aa xa.length ca] 51)=w2':=⟨_,rfl⟩
       rw [hwA] at M Ea hHeld ⊢
       clear hwA
       obtain ⟨ga,hg⟩:∃g,wz.heap.size=g:=⟨_,rfl⟩
       rw [hg] at Ea ⊢
       exact LAST1 AL' AR' cL' cR' ga gb w2' (And.intro M Ea)
      have Eb:=Ext.new2 M #[.int .i64 kb,S nb,.int .i64 pb,.slice Ab xb.length cb] 51
      have M:=M.alloc (.cells #[.int .i64 kb,S nb,.int .i64 pb,.slice Ab xb.length cb] 51)
      go_simp
      refine hK.out _ _ (SC.out _ (SK.out M.keep)) (fun hHeld=>nrm ?_)
      clear hK K
      obtain ⟨w2',hwA⟩:∃w2',wz.alloc (.cells #[.int .i64 kb,S nb,.int .i64 pb,.slice Ab xb.length cb] 51)=w2':=⟨_,rfl⟩
      rw [hwA] at M Eb hHeld ⊢
      clear hwA
      obtain ⟨gb,hg⟩:∃g,wz.heap.size=g:=⟨_,rfl⟩
      rw [hg] at Eb ⊢
      exact LAST2 AL' AR' cL' cR' ga gb w2' (And.intro M Eb)
      rintro AL' AR' cL' cR' ga gb wz ⟨M,Ea⟩
      refine rd2 3 6 (fun K hK=>?_) (fun K hK=>?_)
      ·refine apT [.int .i64 ka,S na,.int .i64 pa,.slice Aa xa.length ca] M.L (fun j u h=>Ea.cells j u h) oneCellT hlm hl56 (Nat.le_trans hsz M.size) ?_
       intro AL' cL' w2' hown hg hloc
       have M:=M.appL hown hg hloc
       refine hK.out _ _ (SC.out _ (SK.out M.keep)) (fun hHeld=>nrm ?_)
       clear hK K
       clear hown hg hloc
       exact LAST3 AL' AR' cL' cR' ga gb w2' M
      have Eb:=Ext.new2 M #[.int .i64 kb,S nb,.int .i64 pb,.slice Ab xb.length cb] 51
      have M:=M.alloc (.cells #[.int .i64 kb,S nb,.int .i64 pb,.slice Ab xb.length cb] 51)
      have Ea:=Ea.alloc (.cells #[.int .i64 kb,S nb,.int .i64 pb,.slice Ab xb.length cb] 51)
      go_simp
      refine hK.out _ _ (SC.out _ (SK.out M.keep)) (fun hHeld=>nrm ?_)
      clear hK K
      obtain ⟨w2',hwA⟩:∃w2',wz.alloc (.cells #[.int .i64 kb,S nb,.int .i64 pb,.slice Ab xb.length cb] 51)=w2':=⟨_,rfl⟩
      rw [hwA] at M Ea Eb hHeld ⊢
      clear hwA
      obtain ⟨gb,hg⟩:∃g,wz.heap.size=g:=⟨_,rfl⟩
      rw [hg] at Eb ⊢
      exact LAST4 AL' AR' cL' cR' ga gb w2' (And.intro M (And.intro Ea Eb))
      rintro AL' AR' cL' cR' ga gb wz ⟨M,Eb⟩
      refine rd1 2 (fun K hK=>?_)
      have Ea:=Ext.new2 M #[.int .i64 ka,S na,.int .i64 pa,.slice Aa xa.length ca] 51
      have M:=M.alloc (.cells #[.int .i64 ka,S na,.int .i64 pa,.slice Aa xa.length ca] 51)
      have Eb:=Eb.alloc (.cells #[.int .i64 ka,S na,.int .i64 pa,.slice Aa xa.length ca] 51)
      go_simp
      refine hK.out _ _ (SC.out _ (SK.out M.keep)) (fun hHeld=>nrm ?_)
      clear hK K
      obtain ⟨w2',hwA⟩:∃w2',wz.alloc (.cells #[.int .i64 ka,S na,.int .i64 pa,.slice Aa xa.length ca] 51)=w2':=⟨_,rfl⟩
      rw [hwA] at M Eb Ea hHeld ⊢
      clear hwA
      obtain ⟨ga,hg⟩:∃g,wz.heap.size=g:=⟨_,rfl⟩
      rw [hg] at Ea ⊢
      exact LAST4 AL' AR' cL' cR' ga gb w2' (And.intro M (And.intro Ea Eb))
      rintro AL' AR' cL' cR' ga gb wz M
      refine rd1 6 (fun K hK=>?_)
      have Eb:=Ext.new2 M #[.int .i64 kb,S nb,.int .i64 pb,.slice Ab xb.length cb] 51
      have M:=M.alloc (.cells #[.int .i64 kb,S nb,.int .i64 pb,.slice Ab xb.length cb] 51)
      go_simp
      refine hK.out _ _ (SC.out _ (SK.out M.keep)) (fun hHeld=>nrm ?_)
      clear hK K
      obtain ⟨w2',hwA⟩:∃w2',wz.alloc (.cells #[.int .i64 kb,S nb,.int .i64 pb,.slice Ab xb.length cb] 51)=w2':=⟨_,rfl⟩
      rw [hwA] at M Eb hHeld ⊢
      clear hwA
      obtain ⟨gb,hg⟩:∃g,wz.heap.size=g:=⟨_,rfl⟩
      rw [hg] at Eb ⊢
      exact LAST5 AL' AR' cL' cR' ga gb w2' (And.intro M Eb)
      rintro AL' AR' cL' cR' ga gb wz ⟨M,Ea,Eb⟩
      refine rd1 3 (fun K hK=>?_)
      refine apT [.int .i64 ka,S na,.int .i64 pa,.slice Aa xa.length ca] M.L (fun j u h=>Ea.cells j u h) oneCellT hlm hl56 (Nat.le_trans hsz M.size) ?_
      intro AL' cL' w2' hown hg hloc
      have M:=M.appL hown hg hloc
      have Eb:=Eb.appL hg hloc
      refine hK.out _ _ (SC.out _ (SK.out M.keep)) (fun hHeld=>nrm ?_)
      clear hK K
      clear hown hg hloc
      exact LAST5 AL' AR' cL' cR' ga gb w2' (And.intro M Eb)
      rintro AL' AR' cL' cR' ga gb wz ⟨M,Eb⟩
      refine rd1 7 (fun K hK=>?_)
      refine apT [.int .i64 kb,S nb,.int .i64 pb,.slice Ab xb.length cb] M.R (fun j u h=>Eb.cells j u h) oneCellT hlm hl56 (Nat.le_trans hsz M.size) ?_
      intro AR' cR' w2' hown hg hloc
      have M:=M.appR hown hg hloc
      refine hK.out _ _ (SC.out _ (SK.out M.keep)) (fun hHeld=>nrm ?_)
      clear hK K
      clear hown hg hloc
      exact LAST6 AL' AR' cL' cR' ga gb w2' M
      rintro AL' AR' cL' cR' ga gb wz M
      refine tk 8 (hS:=SC.out _ (SK.out M.keep)) ?_
      refine tk 9 (hS:=SC.out _ (SK.out M.keep)) ?_
      have HN:Hid (LI wf vs ts us (i+1) (vx++[.node ka na pa xa]) (vy++[.node kb nb pb xb]) AL' cL' AR' cR' wz):=zH (LI.push LB.out HRA.out HRB.out HTA.out HTB.out HTK.out HUK.out HSA.out HSB.out M)
      refine wpAnyH_done (by kernel_rfl) ?_ _
      go_wp2_with fail
      go_roundw
      case rel=>exact ⟨i+1,_,_,_,_,_,_,by omega,rfl,rfl,by go_num,HN⟩
      case measure=>simp [intOf];omega
   have hin:n=i:=by omega
   subst hin
   obtain ⟨hLA,hLB⟩:=HI.out.done
   have hBV:=KF.out _ hBF
   have L1:=HI.out.lx
   have L2:=HI.out.ly
   have hlaw:=Lfc.inst_law V.out SZ.out.1 SZ.out.2.1 SZ.out.2.2 (by rw [HF.out.len,LN.out.1]) HF.out.rel (by rw [L1,LN.out.2.1]) HI.out.rx (by rw [L2,LN.out.2.2.1]) HI.out.ry HH.out
   have hQ:=(QO.out _ hB3).inst (G:=F) (A:=GA) (B:=GB) (c:=gc) (d:=gd) (by rw [HF.out.len,LN.out.1]) (fun i h h'=>(HF.out.rel i h h').1) (HF.out.done.below hBF) (by rw [L1,LN.out.2.1]) (by rw [L2,LN.out.2.2.1]) (by rw [L1];exact hLA) (by rw [L2];exact hLB) hlaw.2.1 hlaw.2.2
   have C9:=oHoldsF_any gs F o p _ _ vx vy GA GB c gc gd c0 ks A0 rel wr hQ HREL.out
   have hz9:Lfc.chkF gs o p vx vy=0:=hlaw.1.1
   rw [HF.out.len,L1,L2,LN.out.2.2.2,hz9] at C9
   have HL:=zH hlaw.1
   have C9H:=zH C9
   have KW:Hid (∀W,Below wr.heap.size wr W→Below w.heap.size w W):=zH (fun W hb=>UP.out _ (hB3.trans (hb.mono hB3.size)))
   obtain ⟨y0,y1,y2,y3,y4,y5,y6,y7,y8',y9,y10⟩:=cells11q (QC.out _ hB3)
   clear hLA hLB hBV L1 L2 hlaw hQ C9 hz9 hB3 y8
   have y8:=y8'
   clear y8'
   go_wp2_with fail
   refine C9H.out.mono ?_
   rintro e w11 ⟨⟨b,rfl,hb⟩,b11⟩
   obtain rfl:b=true:=hb.2 HL.out
   have KB:=zH b11
   clear y0 y1 y2 y3 y4 y5 y6 y7 y8 y9 y10 hb b11 C9H
   go_wp2_with fail
   refine (oAwake_any _).mono ?_
   rintro e w99 ⟨rfl,b99⟩
   go_wp2_with fail
   go_ret
   exact ⟨rfl,KW.out _ (KB.out.trans (b99.mono KB.out.size))⟩
end Go.Proofs.YtadjpadieljjlaaGreat
