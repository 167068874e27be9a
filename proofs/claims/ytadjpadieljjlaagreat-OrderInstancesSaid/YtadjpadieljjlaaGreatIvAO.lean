/- Parts of the proof that no input makes the law false: OcChk, OcChk2, OcCop. -/
import Derived.Test.YtadjpadieljjlaaGreatIvAM
set_option linter.unusedVariables false
set_option linter.unusedSimpArgs false
set_option maxRecDepth 100000
set_option maxHeartbeats 32000000
namespace Lfc
def flat:List Fact→List Raw
 | []=>[]
 | f :: r=>f.l :: f.r :: flat r
theorem flat_app:∀ (x:List Fact) (f:Fact),flat (x++[f])=flat x++[f.l,f.r]
 | [],f=>rfl
 | a :: r,f=>by simp [flat,flat_app r f]
theorem flat_len:∀ (x:List Fact),(flat x).length=2*x.length
 | []=>rfl
 | a :: r=>by simp [flat,flat_len r];omega
def chkF (fs:List Fact) (o p:Ord) (ts us:List Raw):Int :=
 if firstE (flat fs++ts++us)≠0 then firstE (flat fs++ts++us) else if allO (flat fs++ts++us)=false then 32 else if o.vld ts.length≠0 then o.vld ts.length else if p.vld us.length≠0 then p.vld us.length else if o.shp p=false then 92 else 0
end Lfc
namespace Go.Proofs.YtadjpadieljjlaaGreat
open Go.RowKit Go.Maps
theorem FactsP.at_ {q:Nat→Prop} {w:World} {F:Option Addr} {fs:List Lfc.Fact} (h:FactsP q w F fs) {i:Nat} (hi:i<fs.length):∃b o,F=some ⟨b,o,none⟩∧b<w.heap.size∧q b∧FactO q w b (o+i*9) fs[i]:=by
 obtain ⟨b,o,hF,hlt,hb,hf⟩:=h (by intro h0;rw [h0] at hi;cases hi)
 exact ⟨b,o,hF,hlt,hb,hf i hi⟩
theorem oChk1_any (k p k' p' rel:Int) (n n':List UInt8) (A A':Option Addr) (x c x' c':Nat) (w:World) (hr:rel=1∨rel=2∨rel=3) :
  Calls Tryz.prog 63 #[.agg #[.int .i64 k,S n,.int .i64 p,.slice A x c,.int .i64 rel,.int .i64 k',S n',.int .i64 p',.slice A' x' c']] w fun e w'=>e=.returned (.bool false)∧Below w.heap.size w w':=by
 obtain ⟨w1,hw1⟩:∃w1,w.alloc (.cells #[.int .i64 k,S n,.int .i64 p,.slice A x c,.int .i64 rel,.int .i64 k',S n',.int .i64 p',.slice A' x' c'] 70)=w1:=⟨_,rfl⟩
 have b1:=zG hw1
 have q1:=zQ hw1
 have y4:w1.cell? ⟨w.heap.size,4,none⟩=some (.int .i64 rel):=zC q1 4
 have CR:=zH (oRel_any rel w1)
 have hb:(rel == 1 || rel == 2 || rel == 3)=true:=by rcases hr with rfl | rfl | rfl <;> rfl
 rw [hb] at CR
 have B1:=zH b1
 clear b1 q1 hb
 go_enter Tryz.func63,Tryz.ntmps63
 go_wp2_with fail
 refine CR.out.mono ?_
 rintro e w2 ⟨rfl,rfl⟩
 go_wp2_with fail
 go_ret
 exact ⟨rfl,B1.out⟩
theorem idxFact_any (q:Nat→Prop) (fs:List Lfc.Fact) (F:Option Addr) (f0:Nat) (w:World) (hn:fs.length≤1000) (hF:FactsP q w F fs) (hr:∀f∈fs,f.rel=1∨f.rel=2∨f.rel=3) :
  Calls Tryz.prog 92 #[.slice F fs.length f0,.func (.func 63) #[] #[]] w fun e w'=>e=.returned (.int .i64 (-1))∧Below w.heap.size w w':=by
 have HF:=zH hF
 have HR:=zH hr
 obtain ⟨n,hnn⟩:∃n,fs.length=n:=⟨_,rfl⟩
 rw [hnn] at hn ⊢
 have HN:=zH hnn
 have B0:=zH (zB w.heap.size w)
 clear hF hr hnn
 go_enter Tryz.func92,Tryz.ntmps92
 go_wp2_with fail
 go_loopw [8] (fun i wr=>∃k:Nat,k≤n∧i=.int .i64 (k:Int)∧Hid (Below w.heap.size w wr)) (fun i _=>n-(intOf i).toNat)
 case atStart=>exact ⟨0,by omega,rfl,B0⟩
 clear B0
 obtain ⟨k,hk,rfl,HB⟩:=hrel
 by_cases hlt:k<n
 ·have hlt2:k<fs.length:=by rw [HN.out];exact hlt
  obtain ⟨b,o,rfl,hb,hqb,kk,nm,p,ts,A,c,k',n',p',ts',A',c',e1,e2,⟨d0,d1,d2,d3⟩,d4,⟨d5,d6,d7,d8⟩,v1,v2⟩:=(HF.out.below HB.out).at_ hlt2
  have hi0:(0:Int)≤(k:Int):=Int.natCast_nonneg _
  have hi1:(k:Int)<(n:Int):=by omega
  have CC:=zH (oChk1_any kk p k' p' fs[k].rel nm n' A A' ts.length c ts'.length c' wr (HR.out _ (List.getElem_mem _)))
  obtain ⟨rr,hrr⟩:∃rr,fs[k].rel=rr:=⟨_,rfl⟩
  rw [hrr] at CC d4
  clear v1 v2 e1 e2 hrr hqb
  go_wp2_with fail
  refine CC.out.mono ?_
  rintro e w2 ⟨rfl,b2⟩
  have HB2:=zH (HB.out.trans (b2.mono HB.out.size))
  clear b2 d0 d1 d2 d3 d4 d5 d6 d7 d8 CC
  go_wp2_with fail
  go_roundw
  case rel=>exact ⟨k+1,by omega,by go_num,HB2⟩
  case measure=>simp [intOf];omega
 obtain rfl:k=n:=by omega
 go_wp2_with fail
 go_ret
 exact ⟨rfl,HB.out⟩
theorem conFact_any (q:Nat→Prop) (fs:List Lfc.Fact) (F:Option Addr) (f0:Nat) (w:World) (hn:fs.length≤1000) (hF:FactsP q w F fs) (hr:∀f∈fs,f.rel=1∨f.rel=2∨f.rel=3) :
  Calls Tryz.prog 62 #[.slice F fs.length f0,.func (.func 63) #[] #[]] w fun e w'=>e=.returned (.bool false)∧Below w.heap.size w w':=by
 have C:=zH (idxFact_any q fs F f0 w hn hF hr)
 clear hF hr
 go_enter Tryz.func62,Tryz.ntmps62
 go_wp2_with fail
 refine C.out.mono ?_
 rintro e w2 ⟨rfl,b2⟩
 have B2:=zH b2
 clear b2
 go_wp2_with fail
 go_ret
 exact ⟨rfl,B2.out⟩
theorem ownsRow_keepC {w w':World} {base:Nat} {e:TypeId} {size n:Nat} {v:Value} {xs:List Value} (h:w.ownsRow base e size v n xs) (hk:∀g,v.ownBlock=some g→w'.heap[g]?=w.heap[g]?):w'.ownsRow base e size v n xs:=by
 refine ⟨h.1,h.2.imp id ?_⟩
 rintro ⟨g,cap,cur,rfl,hb,hg,rest⟩
 exact ⟨g,cap,cur,rfl,hb,(hk g rfl).trans hg,rest⟩
def GaI (q:Nat→Prop) (w2:World) (l:List Lfc.Raw) (v:Value) (wr:World):Prop:=∃xs,wr.ownsRow w2.heap.size 51 4 v l.length xs∧RowP (fun b=>b<w2.heap.size) wr l xs∧Below w2.heap.size w2 wr
end Go.Proofs.YtadjpadieljjlaaGreat
namespace Go.Proofs.YtadjpadieljjlaaGreat
open Go.RowKit Go.Maps
theorem GaI.step {q:Nat→Prop} {w2 wr w9 w10:World} {l:List Lfc.Raw} {f:Lfc.Fact} {v v':Value} {xs:List Value} {o:Obj} {k p k' p':Int} {n n':List UInt8} {ts ts':List Lfc.Raw} {A A':Option Addr} {c c':Nat} (hown:wr.ownsRow w2.heap.size 51 4 v l.length xs) (hrow:RowP (fun b=>b<w2.heap.size) wr l xs) (hb:Below w2.heap.size w2 wr) (b9:Below wr.heap.size wr w9)
  (hl:TreeVP (fun b=>b<w2.heap.size) w2 f.l (.agg #[.int .i64 k,S n,.int .i64 p,.slice A ts.length c])) (hr:TreeVP (fun b=>b<w2.heap.size) w2 f.r (.agg #[.int .i64 k',S n',.int .i64 p',.slice A' ts'.length c']))
  (hown':w10.ownsRow w2.heap.size 51 4 v' (l.length+2) (xs++[.int .i64 k,S n,.int .i64 p,.slice A ts.length c,.int .i64 k',S n',.int .i64 p',.slice A' ts'.length c'])) (hg:(w9.alloc o).grownBy w10 v.ownBlock):GaI q w2 (l++[f.l,f.r]) v' w10:=by
 have hs2:=hb.size
 have hs9:=b9.size
 have h10:Below w2.heap.size w2 w10:=Below.grown ((hb.trans (b9.mono hs2)).alloc (by omega) o) hg (by simp;omega) (fun b e=>(hown.lt b e).1)
 have hk:∀b,b<w2.heap.size→b<wr.heap.size→w10.heap[b]?=wr.heap[b]?:=fun b hb2 _=>(h10.block b hb2).trans (hb.block b hb2).symm
 obtain ⟨_,_,_,_,e,hP⟩:=hl
 cases e
 obtain ⟨_,_,_,_,e,hP'⟩:=hr
 cases e
 refine ⟨_,by rw [List.length_append];exact hown',RowP.append ?_ (RowP.keep hk (by have:=h10.size;have:=hg.size;simp at this;omega) (fun _ _ h=>h) hrow),h10⟩
 rw [RowP]
 refine ⟨_,_,_,_,_,rfl,TreeP.keep (fun b hb2 _=>h10.block b hb2) h10.size (fun _ _ h=>h) _ _ _ _ _ hP,?_⟩
 rw [RowP]
 exact ⟨_,_,_,_,[],rfl,TreeP.keep (fun b hb2 _=>h10.block b hb2) h10.size (fun _ _ h=>h) _ _ _ _ _ hP',by rw [RowP]⟩
theorem oneCell8 {k p k' p':Int} {n n':List UInt8} {A A':Option Addr} {l c l' c':Nat}:∀u∈[Value.int .i64 k,S n,.int .i64 p,.slice A l c,.int .i64 k',S n',.int .i64 p',.slice A' l' c'],u.oneCell'=true:=by
 intro u hu
 simp only [List.mem_cons,List.not_mem_nil,or_false] at hu
 rcases hu with rfl | rfl | rfl | rfl | rfl | rfl | rfl | rfl <;> rfl
theorem oCheckF_any (q:Nat→Prop) (fs:List Lfc.Fact) (F:Option Addr) (f0:Nat) (rel:Int) (o p:Lfc.Ord) (vo vp:Value) (ts us:List Lfc.Raw) (L R:Option Addr) (cl cr:Nat) (w:World) (hfl:fs.length≤64) (hF:FactsP q w F fs) (hrl:∀f∈fs,f.rel=1∨f.rel=2∨f.rel=3) (hfz:∀f∈fs,f.l.size≤1000000∧f.r.size≤1000000) (hrel:rel=1∨rel=2∨rel=3) (hos:o.size≤1000000) (hps:p.size≤1000000) (hvo:OrdV w o vo) (hvp:OrdV w p vp)
  (hn:ts.length≤1000) (hm:us.length≤1000) (hst:∀t∈ts++us,t.size≤1000000) (hL:L=none→ts.length=0∧cl=0) (hR:R=none→us.length=0∧cr=0) (hts:TreesAt w L ts) (hus:TreesAt w R us) :
  Calls Tryz.prog 35 #[.slice F fs.length f0,.int .i64 rel,vo,.slice L ts.length cl,vp,.slice R us.length cr] w fun e w'=>e=.returned (.int .i64 (Lfc.chkF fs o p ts us))∧Below w.heap.size w w':=by
 have HVO:=zH hvo
 have HVP:=zH hvp
 obtain ⟨A1,c1,k1,a1,l1,rfl⟩:∃A c kd ar n,vo=.agg #[.int .i64 kd,.int .i64 ar,.slice A n c]:=by
  obtain ⟨kd,ar,ts⟩:=o
  obtain ⟨A,c,rfl,hc,hA⟩:=hvo.open_
  exact ⟨A,c,kd,ar,_,rfl⟩
 obtain ⟨A2,c2,k2,a2,l2,rfl⟩:∃A c kd ar n,vp=.agg #[.int .i64 kd,.int .i64 ar,.slice A n c]:=by
  obtain ⟨kd,ar,ts⟩:=p
  obtain ⟨A,c,rfl,hc,hA⟩:=hvp.open_
  exact ⟨A,c,kd,ar,_,rfl⟩
 obtain ⟨xs1,hx1,hr1,hc1,ho1⟩:=treesAt_part hts
 obtain ⟨xs2,hx2,hr2,hc2,ho2⟩:=treesAt_part hus
 obtain ⟨all,hall⟩:∃all,Lfc.flat fs++ts++us=all:=⟨_,rfl⟩
 obtain ⟨n,hnn⟩:∃n,ts.length=n:=⟨_,rfl⟩
 obtain ⟨m,hmm⟩:∃m,us.length=m:=⟨_,rfl⟩
 obtain ⟨nf,hnf⟩:∃nf,fs.length=nf:=⟨_,rfl⟩
 have hlen:all.length=2*nf+n+m:=by rw [←hall,List.length_append,List.length_append,Lfc.flat_len,hnn,hmm,hnf]
 have HST:Hid (∀k (h:k<all.length),all[k].size≤1000000):=zH (fun k h=>by
  have hmem:all[k]∈Lfc.flat fs++ts++us:=by rw [hall];exact List.getElem_mem h
  rw [List.append_assoc] at hmem
  rcases List.mem_append.1 hmem with h1 | h1
  ·have:∀ (l:List Lfc.Fact),(∀f∈l,f.l.size≤1000000∧f.r.size≤1000000)→∀t∈Lfc.flat l,t.size≤1000000:=fun l=>by
    induction l with
    | nil=>intro _ t h;cases h
    | cons a r ih =>
     intro hf t ht
     simp only [Lfc.flat,List.mem_cons] at ht
     rcases ht with rfl | rfl | ht
     ·exact (hf a (List.mem_cons_self ..)).1
     ·exact (hf a (List.mem_cons_self ..)).2
     exact ih (fun f h=>hf f (List.mem_cons_of_mem _ h)) t ht
   exact this fs hfz _ h1
  exact hst _ h1)
 have hcd:∃res,Lfc.chkF fs o p ts us=res:=⟨_,rfl⟩
 obtain ⟨res,hres⟩:=hcd
 obtain ⟨zo,hzo⟩:∃zo,o.vld n=zo:=⟨_,rfl⟩
 obtain ⟨zp,hzp⟩:∃zp,p.vld m=zp:=⟨_,rfl⟩
 obtain ⟨sh,hsh⟩:∃sh,o.shp p=sh:=⟨_,rfl⟩
 have HRES:Hid ((Lfc.firstE all≠0→res=Lfc.firstE all)∧(Lfc.firstE all=0→Lfc.allO all=false→res=32)∧(Lfc.firstE all=0→Lfc.allO all=true→((zo≠0→res=zo)∧(zo=0→((zp≠0→res=zp)∧(zp=0→((sh=false→res=92)∧(sh=true→res=0)))))))):=zH (by
  unfold Lfc.chkF at hres
  rw [hall,hnn,hmm,hzo,hzp,hsh] at hres
  refine ⟨fun h=>?_,fun h h2=>?_,fun h h2=>⟨fun h3=>?_,fun h3=>⟨fun h4=>?_,fun h4=>⟨fun h5=>?_,fun h5=>?_⟩⟩⟩⟩
  ·rw [if_pos h] at hres;exact hres.symm
  ·rw [if_neg (by omega),if_pos h2] at hres;exact hres.symm
  ·rw [if_neg (by omega),if_neg (by rw [h2];decide),if_pos h3] at hres;exact hres.symm
  ·rw [if_neg (by omega),if_neg (by rw [h2];decide),if_neg (by omega),if_pos h4] at hres;exact hres.symm
  ·rw [if_neg (by omega),if_neg (by rw [h2];decide),if_neg (by omega),if_neg (by omega),if_pos h5] at hres;exact hres.symm
  rw [if_neg (by omega),if_neg (by rw [h2];decide),if_neg (by omega),if_neg (by omega),if_neg (by rw [h5];decide)] at hres;exact hres.symm)
 rw [hres]
 rw [hnn] at hn hL hx1 ⊢
 rw [hmm] at hm hR hx2 ⊢
 rw [hnf] at hfl ⊢
 obtain ⟨w1,hw1⟩:∃w1,w.alloc (.cells #[.int .i64 k1,.int .i64 a1,.slice A1 l1 c1] 26)=w1:=⟨_,rfl⟩
 obtain ⟨w2,hw2⟩:∃w2,w1.alloc (.cells #[.int .i64 k2,.int .i64 a2,.slice A2 l2 c2] 26)=w2:=⟨_,rfl⟩
 have b1:=zG hw1
 have b2:=zG hw2
 have q1:=zQ hw1
 have q2:=zQ hw2
 have e1:=zL q1
 have e2:=zL q2
 have b02:Below w.heap.size w w2:=b1.trans (b2.mono (by omega))
 have s02:w.heap.size≤w2.heap.size:=by omega
 have Q12:=zH ((b2.block _ e1).trans q1)
 have Q22:=zH q2
 have B02:=zH b02
 have HFS:=zH (hF.keep (q':=fun b=>q b∧b<w2.heap.size) (fun b _ hlt=>b02.block b hlt) b02.size (fun b hlt hb=>⟨hb,by omega⟩))
 have HF2:=zH (hF.below b02)
 have HRL:=zH hrl
 have HX:=zH (And.intro (And.intro hx1 (And.intro hr1 (And.intro hc1 ho1))) (And.intro hx2 (And.intro hr2 (And.intro hc2 ho2))))
 have HLR:=zH (And.intro hL hR)
 have HNF:=zH hnf
 have HALL:=zH hall
 have HLEN:=zH hlen
 have HNM:=zH (And.intro hzo (And.intro hzp (And.intro hsh (And.intro hos hps))))
 have CR:Hid (∀W,Calls Tryz.prog 61 #[.int .i64 rel] W fun e w'=>e=.returned (.bool true)∧w'=W):=zH (fun W=>by
  have:=oRel_any rel W
  rwa [show (rel == 1 || rel == 2 || rel == 3)=true by rcases hrel with rfl | rfl | rfl <;> rfl] at this)
 have I0:Hid (GaI q w2 (Lfc.flat (fs.take 0)) (.slice none 0 0) w2):=zH ⟨[],World.ownsRow_nil w2 w2.heap.size _ 4,by rw [List.take_zero,Lfc.flat,RowP],zB _ _⟩
 obtain ⟨i0,hi,hz0,hz1,hz2⟩:=info_parts termInfo
 have hnlt:n≤1000∧m≤1000:=⟨hn,hm⟩
 clear hvo hvp hx1 hr1 hc1 ho1 hx2 hr2 hc2 ho2 hall hnn hmm hlen hsh hst hL hR hts hus b1 b2 q1 q2 b02 hres hF hrl hfz hnf hzo hzp hrel hos hps
 go_enter Tryz.func35,Tryz.ntmps35
 go_wp2_with fail
 go_loopw [13,25] (fun v i wr=>∃k:Nat,k≤nf∧i=.int .i64 (k:Int)∧Hid (GaI q w2 (Lfc.flat (fs.take k)) v wr)) (fun _ i _=>nf-(intOf i).toNat)
 case atStart=>exact ⟨0,by omega,rfl,I0⟩
 clear I0 hw1 hw2
 obtain ⟨k,hk,rfl,HI⟩:=hrel
 by_cases hlt:k<nf
 ·have hlt2:k<fs.length:=by rw [HNF.out];exact hlt
  obtain ⟨xs,hown,hrow,hbw⟩:=HI.out
  have hfl2:(Lfc.flat (fs.take k)).length=2*k:=by rw [Lfc.flat_len,List.length_take];omega
  have HTK:Hid (Lfc.flat (fs.take (k+1))=Lfc.flat (fs.take k)++[fs[k].l,fs[k].r]):=zH (by rw [List.take_succ_eq_append_getElem hlt2,Lfc.flat_app])
  obtain ⟨b,oo,rfl,hb,hqb,kk,nm,pp,ls,B,c,kk',nm',pp',rs,B',c',f1,f2,⟨d0,d1,d2,d3⟩,d4,⟨d5,d6,d7,d8⟩,v1,v2⟩:=HFS.out.at_ hlt2
  have HV1:=zH (v1.keep (q':=fun b=>b<w2.heap.size) (fun _ _ _=>rfl) (zN _) (fun b _ hb=>hb.2))
  have HV2:=zH (v2.keep (q':=fun b=>b<w2.heap.size) (fun _ _ _=>rfl) (zN _) (fun b _ hb=>hb.2))
  have cc:∀j v,w2.cell? ⟨b,j,none⟩=some v→wr.cell? ⟨b,j,none⟩=some v:=fun j v h=>(hbw.cell (p:=⟨b,j,none⟩) hb).trans h
  obtain ⟨rr,hrr⟩:∃rr,fs[k].rel=rr:=⟨_,rfl⟩
  rw [hrr] at d4
  have g0:=cc _ _ d0
  have g1:=cc _ _ d1
  have g2:=cc _ _ d2
  have g3:=cc _ _ d3
  have g4:=cc _ _ d4
  have g5:=cc _ _ d5
  have g6:=cc _ _ d6
  have g7:=cc _ _ d7
  have g8:=cc _ _ d8
  have hi0:(0:Int)≤(k:Int):=Int.natCast_nonneg _
  have hi1:(k:Int)<(nf:Int):=by omega
  obtain ⟨wx,hwx⟩:∃wx,wr.alloc (.cells #[.int .i64 kk,S nm,.int .i64 pp,.slice B (List.length ls) c,.int .i64 rr,.int .i64 kk',S nm',.int .i64 pp',.slice B' (List.length rs) c'] 70)=wx:=⟨_,rfl⟩
  have bx:=zG hwx
  have qx:=zQ hwx
  have x0:=(zC qx 0:wx.cell? ⟨wr.heap.size,0,none⟩=some (.int .i64 kk))
  have x1:=(zC qx 1:wx.cell? ⟨wr.heap.size,1,none⟩=some (S nm))
  have x2:=(zC qx 2:wx.cell? ⟨wr.heap.size,2,none⟩=some (.int .i64 pp))
  have x3:=(zC qx 3:wx.cell? ⟨wr.heap.size,3,none⟩=some (.slice B (List.length ls) c))
  have x5:=(zC qx 5:wx.cell? ⟨wr.heap.size,5,none⟩=some (.int .i64 kk'))
  have x6:=(zC qx 6:wx.cell? ⟨wr.heap.size,6,none⟩=some (S nm'))
  have x7:=(zC qx 7:wx.cell? ⟨wr.heap.size,7,none⟩=some (.int .i64 pp'))
  have x8:=(zC qx 8:wx.cell? ⟨wr.heap.size,8,none⟩=some (.slice B' (List.length rs) c'))
  have HWX:=zH hwx
  have HBX:=zH bx
  have HROW:=zH hrow
  have HBW:=zH hbw
  have HOWN:=zH hown
  have HFL:=zH hfl2
  have HOW2:Hid (wx.ownsRow w2.heap.size 51 4 u13 (2*k) xs):=zH (by rw [←hfl2];exact ownsRow_keepC hown (fun g hg=>bx.block g (hown.lt g hg).2))
  have hlm:2*k+2≤maxLen:=by unfold maxLen;omega
  have hl56:(2*k+2)*56≤140737488355328:=by omega
  have hbz:w2.heap.size≤wx.heap.size:=Nat.le_trans hbw.size bx.size
  clear hwx bx qx hown hrow hbw v1 v2 d0 d1 d2 d3 d4 d5 d6 d7 d8 cc f1 f2 hrr HI hfl2
  go_upto_region 5 with fail
  rw [HWX.out]
  clear HWX g0 g1 g2 g3 g4 g5 g6 g7 g8
  go_wp2_with (at_builtin;refine wpList_append_own_at _ rfl _ _ 27 rfl w2.heap.size 51 i0 (.agg #[.int .i64 0,S [],.int .i64 0,.slice none 0 0]) 4 56 Tryz.underlying27 hi hz0 hz1 hz2 rfl (by decide) _ _ _ rfl (HOW2.out.alloc _) ⟨wx.heap.size,0,none⟩ 2 2 [.int .i64 kk,S nm,.int .i64 pp,.slice B (List.length ls) c,.int .i64 kk',S nm',.int .i64 pp',.slice B' (List.length rs) c'] rfl rfl (fun jj v hj=>ocells_new wx _ rfl [.int .i64 kk,S nm,.int .i64 pp,.slice B (List.length ls) c,.int .i64 kk',S nm',.int .i64 pp',.slice B' (List.length rs) c'] 51 jj v hj) oneCell8 hlm hl56 (oalloc_le hbz) ?_)
  intro v' w10 hown10 hg10 _ hloc10
  have HN:Hid (GaI q w2 (Lfc.flat (fs.take (k+1))) v' w10):=zH (by
   rw [HTK.out]
   exact GaI.step HOWN.out HROW.out HBW.out HBX.out HV1.out HV2.out (by rw [HFL.out];exact hown10) hg10)
  clear hown10 hg10 hloc10
  go_wp2_with fail
  go_roundw
  case rel=>exact ⟨k+1,by omega,by go_num,HN⟩
  case measure=>simp [intOf];omega
 obtain rfl:k=nf:=by omega
 obtain ⟨xs0,hown0,hrow0,hb0⟩:=HI.out
 have htk:fs.take k=fs:=by rw [←HNF.out];exact List.take_length
 rw [htk] at hown0 hrow0
 obtain ⟨n0,hn0⟩:∃n0,(Lfc.flat fs).length=n0:=⟨_,rfl⟩
 have hn02:n0=2*k:=by rw [←hn0,Lfc.flat_len,HNF.out]
 rw [hn0] at hown0
 obtain ⟨A0,c0,rfl,hc0⟩:=own_form hown0
 obtain ⟨wr0,hwr0⟩:∃wr0,wr0=wr:=⟨_,rfl⟩
 subst hwr0
 obtain ⟨w3,hw3⟩:∃w3,wr0.alloc (.cells #[.slice A0 n0 c0,.slice L n cl,.slice R m cr] 27)=w3:=⟨_,rfl⟩
 have b3:=zG hw3
 have q3:=zQ hw3
 have e3:=zL q3
 have b23:Below w2.heap.size w2 w3:=hb0.trans (b3.mono hb0.size)
 have b03:Below w.heap.size w w3:=B02.out.trans (b23.mono s02)
 have s23:=b23.size
 have Q1:=zH ((b23.block _ (by omega)).trans Q12.out)
 have Q2:=zH ((b23.block _ e2).trans Q22.out)
 have s03:w.heap.size≤w3.heap.size:=by omega
 obtain ⟨⟨hx1,hr1,hc1,ho1⟩,hx2,hr2,hc2,ho2⟩:=HX.out
 have hPO:PartsO w3 wr0.heap.size 0 [⟨A0,n0,c0,xs0⟩,⟨L,n,cl,xs1⟩,⟨R,m,cr,xs2⟩]:=by
  intro k hk
  have hk3:k<3:=hk
  have hk':k=0∨k=1∨k=2:=by omega
  rcases hk' with rfl | rfl | rfl
  ·refine ⟨zC q3 0,hown0.1,fun e=>?_,fun a ha j u hj=>?_,hrow0.cell1⟩
   ·rcases hown0.2 with ⟨h1,h2⟩ | ⟨g,cap,cur,h1,_⟩
    ·injection h1 with _ e2 e3
     exact ⟨h2,e3⟩
    injection h1 with e1 _ _
    rw [e1] at e
    cases e
   rcases hown0.2 with ⟨h1,h2⟩ | ⟨g,cap,cur,h1,hbg,hg,_⟩
   ·injection h1 with e1 _ _
    rw [e1] at ha
    cases ha
   injection h1 with e1 _ _
   rw [e1] at ha
   cases ha
   exact (b3.cell (World.block_lt_of_cell? wr0 _ (hown0.cells (g:=g) (by rw [e1];rfl) j u hj))).trans (hown0.cells (g:=g) (by rw [e1];rfl) j u hj)
  ·exact ⟨zC q3 1,hx1,HLR.out.1,fun a ha j u hj=>(b03.cell (World.block_lt_of_cell? w _ (hc1 a ha j u hj))).trans (hc1 a ha j u hj),ho1⟩
  exact ⟨zC q3 2,hx2,HLR.out.2,fun a ha j u hj=>(b03.cell (World.block_lt_of_cell? w _ (hc2 a ha j u hj))).trans (hc2 a ha j u hj),ho2⟩
 have CC:=zH (concatT_any wr0.heap.size 0 3 _ w3 (by simp) (by simp [partsN];omega) hPO)
 have HRW:Hid (∀w4 v,w4.ownsRow w3.heap.size 51 4 v (partsN [⟨A0,n0,c0,xs0⟩,⟨L,n,cl,xs1⟩,⟨R,m,cr,xs2⟩]) (partsX [⟨A0,n0,c0,xs0⟩,⟨L,n,cl,xs1⟩,⟨R,m,cr,xs2⟩])→Below w3.heap.size w3 w4→∃A c,v=.slice A all.length c∧TreesAt w4 A all):=zH (fun w4 v ho hb=>by
  have hb2:=b23.trans (hb.mono s23)
  have hb0':=b03.trans (hb.mono s03)
  refine treesAt_own (q:=fun b=>b<w2.heap.size) (xs:=(xs0++xs1)++xs2) (by simpa [partsX] using ho) ?_
  rw [←HALL.out]
  refine RowP.append (RowP.keep (fun b hb1 hb2=>hb0'.block b hb2) hb0'.size (fun b h _=>by omega) hr2) (RowP.append (RowP.keep (fun b hb1 hb2=>hb0'.block b hb2) hb0'.size (fun b h _=>by omega) hr1) (RowP.keep (fun b hb1 _=>?_) (by have:=hb.size;have:=b3.size;omega) (fun _ _ h=>h) hrow0))
  have hb1:b<w2.heap.size:=hb1
  exact (hb2.block b hb1).trans (hb0.block b hb1).symm)
 obtain ⟨h_o,h_p,h_s,hos,hps⟩:=HNM.out
 have CV1:Hid (∀W,Below w3.heap.size w3 W→Calls Tryz.prog 33 #[.agg #[.int .i64 k1,.int .i64 a1,.slice A1 l1 c1],.int .i64 (n:Int)] W fun e w'=>e=.returned (.int .i64 zo)∧Below W.heap.size W w'):=zH (fun W hW=>by
  have:=oValid_any o _ (n:Int) W hos (by omega) (by omega) (HVO.out.below (b03.trans (hW.mono s03)))
  rwa [h_o] at this)
 have CV2:Hid (∀W,Below w3.heap.size w3 W→Calls Tryz.prog 33 #[.agg #[.int .i64 k2,.int .i64 a2,.slice A2 l2 c2],.int .i64 (m:Int)] W fun e w'=>e=.returned (.int .i64 zp)∧Below W.heap.size W w'):=zH (fun W hW=>by
  have:=oValid_any p _ (m:Int) W hps (by omega) (by omega) (HVP.out.below (b03.trans (hW.mono s03)))
  rwa [h_p] at this)
 have CS:Hid (∀W,Below w3.heap.size w3 W→Calls Tryz.prog 34 #[.agg #[.int .i64 k1,.int .i64 a1,.slice A1 l1 c1],.agg #[.int .i64 k2,.int .i64 a2,.slice A2 l2 c2]] W fun e w'=>e=.returned (.bool sh)∧Below W.heap.size W w'):=zH (fun W hW=>by
  have:=oShape_upto _ hos o p _ _ W (zN _) (HVO.out.below (b03.trans (hW.mono s03))) (HVP.out.below (b03.trans (hW.mono s03)))
  rwa [h_s] at this)
 have CFF:Hid (∀W,Below w3.heap.size w3 W→Calls Tryz.prog 62 #[.slice F k f0,.func (.func 63) #[] #[]] W fun e w'=>e=.returned (.bool false)∧Below W.heap.size W w'):=zH (fun W hW=>by
  have:=conFact_any q fs F f0 W (by rw [HNF.out];omega) (HF2.out.below (b23.trans (hW.mono s23))) HRL.out
  rwa [HNF.out] at this)
 have B03:=zH b03
 have hl2:all.length≤3000:=by rw [HLEN.out];omega
 obtain ⟨N,hN⟩:∃N,all.length=N:=⟨_,rfl⟩
 have HN:=zH hN
 rw [hN] at hl2
 clear hN h_o h_p h_s hos hps hx1 hr1 hc1 ho1 hx2 hr2 hc2 ho2 hPO b03 b23 b3 q3 hb0 hrow0 hown0 hn02 hn0 htk HI hc0
 obtain ⟨nf,hnf⟩:∃nf,nf=k:=⟨_,rfl⟩
 subst hnf
 go_wp2_with fail
 refine CC.out.mono ?_
 rintro e w4 ⟨⟨v4,rfl,hown⟩,b4⟩
 obtain ⟨A4,c4,rfl,hT4⟩:=HRW.out _ _ hown b4
 rw [HN.out]
 have HT4:=zH hT4
 have B4:=zH b4
 have I0:Hid (Below w4.heap.size w4 w4):=zH (zB _ _)
 clear hown hT4 b4 CC HRW hw3
 go_wp2_with fail
 go_loopw [44] (fun i wr=>∃k:Nat,k≤N∧i=.int .i64 (k:Int)∧Hid (Lfc.firstE all=Lfc.firstE (all.drop k))∧Hid (Below w4.heap.size w4 wr)) (fun i _=>N-(intOf i).toNat)
 case atStart=>exact ⟨0,by omega,rfl,zH rfl,I0⟩
 obtain ⟨k,hk,rfl,HF,HB⟩:=hrel
 by_cases hlt:k<N
 ·have hlt2:k<all.length:=by rw [HN.out];exact hlt
  obtain ⟨b,oo,kk,nn,pp,us',B',cc,rfl,hb,ht,d0,d1,d2,d3,hcu,hB,hT⟩:=HT4.out.at_ hlt2
  have hbw:=HB.out
  have f0:=(hbw.cell (p:=⟨b,oo+k*4,none⟩) hb).trans d0
  have f1:=(hbw.cell (p:=⟨b,oo+k*4+1,none⟩) hb).trans d1
  have f2:=(hbw.cell (p:=⟨b,oo+k*4+2,none⟩) hb).trans d2
  have f3:=(hbw.cell (p:=⟨b,oo+k*4+3,none⟩) hb).trans d3
  have hi0:(0:Int)≤(k:Int):=Int.natCast_nonneg _
  have hi1:(k:Int)<(N:Int):=by omega
  obtain ⟨wx,hwx⟩:∃wx,wr.alloc (.cells #[.int .i64 kk,S nn,.int .i64 pp,.slice B' us'.length cc] 51)=wx:=⟨_,rfl⟩
  have bx:=zG hwx
  have qx:=zQ hwx
  obtain ⟨y0,y1,y2,y3⟩:=cells4t qx
  have CW:=zH (tWf_any all[k] _ wx (by have:=HST.out k hlt2;omega) (hT.below (hbw.trans (bx.mono hbw.size))))
  have HB2:=zH (hbw.trans (bx.mono hbw.size))
  have HFD:=zH (HF.out.trans (Lfc.firstE_drop hlt2))
  have HWX:=zH hwx
  obtain ⟨z,hz⟩:∃z,all[k].twf=z:=⟨_,rfl⟩
  rw [hz] at CW HFD
  clear hz qx bx hwx hT hB ht d0 d1 d2 d3 hbw hlt2
  go_upto_region 11 with fail
  rw [HWX.out]
  clear HWX f0 f1 f2 f3
  go_wp2_with fail
  refine CW.out.mono ?_
  rintro e w5 ⟨rfl,b5⟩
  have HB5:=zH (HB2.out.trans (b5.mono HB2.out.size))
  clear b5 CW y0 y1 y2 y3
  by_cases hz0:z=0
  ·have HFE:Hid (Lfc.firstE all=Lfc.firstE (all.drop (k+1))):=zH (by rw [HFD.out,if_pos hz0])
   clear HFD
   subst hz0
   go_wp2_with fail
   go_roundw
   case rel=>exact ⟨k+1,by omega,by go_num,HFE,HB5⟩
   case measure=>simp [intOf];omega
  have HFE:Hid (Lfc.firstE all=z):=zH (by rw [HFD.out,if_neg hz0])
  have hz1:(z == 0)=false:=by simpa using hz0
  have hz2:(z != 0)=true:=by simpa using hz0
  have hz3:decide (z=0)=false:=by simpa using hz0
  have HZ:Hid (Ending.returned (.int .i64 z)=.returned (.int .i64 res)∧Below w.heap.size w w5):=zH ⟨by rw [HRES.out.1 (by rw [HFE.out];exact hz0),HFE.out],B03.out.trans ((B4.out.trans (HB5.out.mono B4.out.size)).mono s03)⟩
  clear HFD hz0
  go_wp2_with fail
  go_ret
  exact HZ.out
 obtain rfl:k=N:=by omega
 have HFE:Hid (Lfc.firstE all=0):=zH (by rw [HF.out,←HN.out,List.drop_length,Lfc.firstE])
 clear HF
 have I0:Hid (Below w4.heap.size w4 wr):=HB
 clear HB
 obtain ⟨wq2,hwq2⟩:∃wq2,wq2=wr:=⟨_,rfl⟩
 subst hwq2
 go_wp2_with fail
 go_loopw [56] (fun i wr=>∃j:Nat,j≤k∧i=.int .i64 (j:Int)∧Hid (Lfc.allO all=Lfc.allO (all.drop j))∧Hid (Below w4.heap.size w4 wr)) (fun i _=>k-(intOf i).toNat)
 case atStart=>exact ⟨0,by omega,rfl,zH rfl,I0⟩
 clear I0
 obtain ⟨j,hj,rfl,HF,HB⟩:=hrel
 by_cases hlt:j<k
 ·have hlt2:j<all.length:=by rw [HN.out];exact hlt
  obtain ⟨b,oo,kk,nn,pp,us',B',cc,rfl,hb,ht,d0,d1,d2,d3,hcu,hB,hT⟩:=HT4.out.at_ hlt2
  have hbw:=HB.out
  have f0:=(hbw.cell (p:=⟨b,oo+j*4,none⟩) hb).trans d0
  have f1:=(hbw.cell (p:=⟨b,oo+j*4+1,none⟩) hb).trans d1
  have f2:=(hbw.cell (p:=⟨b,oo+j*4+2,none⟩) hb).trans d2
  have f3:=(hbw.cell (p:=⟨b,oo+j*4+3,none⟩) hb).trans d3
  have hi0:(0:Int)≤(j:Int):=Int.natCast_nonneg _
  have hi1:(j:Int)<(k:Int):=by omega
  obtain ⟨wx,hwx⟩:∃wx,wr.alloc (.cells #[.int .i64 kk,S nn,.int .i64 pp,.slice B' us'.length cc] 51)=wx:=⟨_,rfl⟩
  have bx:=zG hwx
  have qx:=zQ hwx
  obtain ⟨y0,y1,y2,y3⟩:=cells4t qx
  have CW:=zH (tIsO_any all[j] _ wx (HST.out j hlt2) (hT.below (hbw.trans (bx.mono hbw.size))))
  have HB2:=zH (hbw.trans (bx.mono hbw.size))
  have HFD:=zH (HF.out.trans (Lfc.allO_drop hlt2))
  have HWX:=zH hwx
  obtain ⟨z,hz⟩:∃z,all[j].isO=z:=⟨_,rfl⟩
  rw [hz] at CW HFD
  clear hz qx bx hwx hT hB ht d0 d1 d2 d3 hbw hlt2
  go_upto_region 18 with fail
  rw [HWX.out]
  clear HWX f0 f1 f2 f3
  go_wp2_with fail
  refine CW.out.mono ?_
  rintro e w5 ⟨rfl,b5⟩
  have HB5:=zH (HB2.out.trans (b5.mono HB2.out.size))
  clear b5 CW y0 y1 y2 y3
  cases z
  ·have HZ:Hid (Ending.returned (.int .i64 32)=.returned (.int .i64 res)∧Below w.heap.size w w5):=zH ⟨by rw [HRES.out.2.1 HFE.out (by rw [HFD.out];rfl)],B03.out.trans ((B4.out.trans (HB5.out.mono B4.out.size)).mono s03)⟩
   clear HFD
   go_wp2_with fail
   go_ret
   exact HZ.out
  have HFE2:Hid (Lfc.allO all=Lfc.allO (all.drop (j+1))):=zH (by rw [HFD.out];rfl)
  clear HFD
  go_wp2_with fail
  go_roundw
  case rel=>exact ⟨j+1,by omega,by go_num,HFE2,HB5⟩
  case measure=>simp [intOf];omega
 obtain rfl:j=k:=by omega
 have HAO:Hid (Lfc.allO all=true):=zH (by rw [HF.out,←HN.out,List.drop_length,Lfc.allO])
 have HRZ:=zH (HRES.out.2.2 HFE.out HAO.out)
 have b3r:=B4.out.trans (HB.out.mono B4.out.size)
 have HB0:=zH b3r
 obtain ⟨y0,y1,y2⟩:=cells3o ((b3r.block _ (by omega)).trans Q1.out)
 have C1:=zH (CV1.out _ b3r)
 clear HF HB HAO b3r
 go_wp2_with fail
 refine C1.out.mono ?_
 rintro e w6 ⟨rfl,b6⟩
 have b36:=HB0.out.trans (b6.mono HB0.out.size)
 have HB6:=zH b36
 by_cases hzo:zo=0
 ·obtain ⟨z0,z1,z2⟩:=cells3o ((b36.block _ (by omega)).trans Q2.out)
  have C2:=zH (CV2.out _ b36)
  have HRP:=zH (HRZ.out.2 hzo)
  clear b36 b6 C1 y0 y1 y2 HRZ
  subst hzo
  go_wp2_with fail
  refine C2.out.mono ?_
  rintro e w7 ⟨rfl,b7⟩
  have b37:=HB6.out.trans (b7.mono HB6.out.size)
  have HB7:=zH b37
  by_cases hzp:zp=0
  ·obtain ⟨y0,y1,y2⟩:=cells3o ((b37.block _ (by omega)).trans Q1.out)
   clear z0 z1 z2
   obtain ⟨z0,z1,z2⟩:=cells3o ((b37.block _ (by omega)).trans Q2.out)
   have C3:=zH (CS.out _ b37)
   have HRS:=zH (HRP.out.2 hzp)
   clear b37 b7 C2 HRP
   subst hzp
   go_wp2_with fail
   refine C3.out.mono ?_
   rintro e w8 ⟨rfl,b8⟩
   have b38:=HB7.out.trans (b8.mono HB7.out.size)
   have HB8:=zH b38
   clear b8 C3 y0 y1 y2 z0 z1 z2
   cases sh with
   | false =>
    have HZ:Hid (Ending.returned (.int .i64 92)=.returned (.int .i64 res)∧Below w.heap.size w w8):=zH ⟨by rw [HRS.out.1 rfl],B03.out.trans (HB8.out.mono s03)⟩
    clear HRS b38
    go_wp2_with fail
    go_ret
    exact HZ.out
   | true =>
    have HRT:=zH (HRS.out.2 rfl)
    have CF:=zH (CFF.out _ b38)
    clear HRS b38
    go_wp2_with fail
    refine (CR.out _).mono ?_
    rintro e w9 ⟨rfl,rfl⟩
    go_wp2_with fail
    refine CF.out.mono ?_
    rintro e w10 ⟨rfl,b10⟩
    have HZ:Hid (Ending.returned (.int .i64 0)=.returned (.int .i64 res)∧Below w.heap.size w w10):=zH ⟨by rw [HRT.out],B03.out.trans ((HB8.out.trans (b10.mono HB8.out.size)).mono s03)⟩
    clear b10 CF
    go_wp2_with fail
    go_ret
    exact HZ.out
  have hz1:(zp == 0)=false:=by simpa using hzp
  have hz2:(zp != 0)=true:=by simpa using hzp
  have hz3:decide (zp=0)=false:=by simpa using hzp
  have HZ:Hid (Ending.returned (.int .i64 zp)=.returned (.int .i64 res)∧Below w.heap.size w w7):=zH ⟨by rw [HRP.out.1 hzp],B03.out.trans (HB7.out.mono s03)⟩
  clear b37 b7 C2 HRP hzp z0 z1 z2
  go_wp2_with fail
  go_ret
  exact HZ.out
 have hz1:(zo == 0)=false:=by simpa using hzo
 have hz2:(zo != 0)=true:=by simpa using hzo
 have hz3:decide (zo=0)=false:=by simpa using hzo
 have HZ:Hid (Ending.returned (.int .i64 zo)=.returned (.int .i64 res)∧Below w.heap.size w w6):=zH ⟨by rw [HRZ.out.1 hzo],B03.out.trans (HB6.out.mono s03)⟩
 clear b36 b6 C1 HRZ hzo y0 y1 y2
 go_wp2_with fail
 go_ret
 exact HZ.out
end Go.Proofs.YtadjpadieljjlaaGreat
namespace Go.Proofs.YtadjpadieljjlaaGreat
open Go.RowKit Go.Maps
def CpX (w2:World) (ix:Int) (s:Value) (wx:World):Prop:=∃ (B:Nat) (A5 A6:Option Addr) (N5 N6 c5 c6:Nat),s=.pointer (some ⟨B,0,none⟩)∧wx.heap[B]?=some (.cells #[.int .i64 ix,.slice none 0 0,.slice A5 N5 c5,.slice A6 N6 c6] 39 (0,0))∧Below w2.heap.size w2 wx∧w2.heap.size≤B
def CopAns (w:World) (e:Ending) (w':World):Prop:=(∃ (ix:Int) (A A1 A2:Option Addr) (n n1 n2 c c1 c2:Nat),e=.returned (.agg #[.int .i64 ix,.slice A n c,.slice A1 n1 c1,.slice A2 n2 c2]))∧Below w.heap.size w w'
structure CoI (w2 wq:World) (B:Nat) (ix:Int) (S5 S6:Value) (k:Nat) (A:Option Addr) (c:Nat) (wr:World):Prop where
 blk:wr.heap[B]?=some (.cells #[.int .i64 ix,.slice A k c,S5,S6] 39 (0,0))
 own:∃xs,wr.ownsRow wq.heap.size 39 4 (.slice A k c) k xs
 bel:Below w2.heap.size w2 wr
 size:wq.heap.size≤wr.heap.size
theorem oneCellP {ix:Int} {A A1 A2:Option Addr} {n n1 n2 c c1 c2:Nat}:∀u∈[Value.int .i64 ix,.slice A n c,.slice A1 n1 c1,.slice A2 n2 c2],u.oneCell'=true:=by
 intro u hu
 simp only [List.mem_cons,List.not_mem_nil,or_false] at hu
 rcases hu with rfl | rfl | rfl | rfl <;> rfl
theorem CoI.step {w2 wq wr w9 w10:World} {B:Nat} {ix:Int} {S5 S6:Value} {k:Nat} {A:Option Addr} {c:Nat} {v':Value} {o:Obj} {xs ys:List Value} (h:CoI w2 wq B ix S5 S6 k A c wr) (hB:B<wq.heap.size) (hwB:w2.heap.size≤B) (b9:Below wr.heap.size wr w9) (hown:wr.ownsRow wq.heap.size 39 4 (.slice A k c) k xs)
  (hown':w10.ownsRow wq.heap.size 39 4 v' (k+1) ys) (hg:(w9.alloc o).grownBy w10 (Value.slice A k c).ownBlock) :
  w10.heap[B]?=some (.cells #[.int .i64 ix,.slice A k c,S5,S6] 39 (0,0))∧∀A' c',v'=.slice A' (k+1) c'→CoI w2 wq B ix S5 S6 (k+1) A' c' (w10.setCell ⟨B,1,none⟩ v'):=by
 have hs9:=b9.size
 have hs10:w9.heap.size+1≤w10.heap.size:=by have:=hg.size;simpa using this
 have hsz:=h.size
 have hs2:=h.bel.size
 have hne:∀b,b<wq.heap.size→(Value.slice A k c).ownBlock≠some b:=fun b hb e=>by have:=(hown.lt b e).1;omega
 have hk:∀b,b<wq.heap.size→w10.heap[b]?=wr.heap[b]?:=fun b hb=>(hg.block b (by simp;omega) (fun e=>hne b hb e.symm)).trans ((zA _ _ _ (by omega)).trans (b9.block b (by omega)))
 have hb10:w10.heap[B]?=some (.cells #[.int .i64 ix,.slice A k c,S5,S6] 39 (0,0)):=(hk B hB).trans h.blk
 refine ⟨hb10,?_⟩
 rintro A' c' rfl
 have ho:Oth B w10 (w10.setCell ⟨B,1,none⟩ (.slice A' (k+1) c')):=Oth.set _ _
 have hos:=ho.size
 refine ⟨by simp [World.setCell,Array.getElem?_modify,hb10],⟨_,ownsRow_keep hown' (fun g hg2=>ho.block g (hown'.lt g hg2).2 (fun e=>by have:=(hown'.lt g hg2).1;have:=zO e;omega))⟩,?_,by omega⟩
 have hbg:Below w2.heap.size w2 w10:=Below.grown ((h.bel.trans (b9.mono hs2)).alloc (by omega) o) hg (by simp;omega) (fun b e=>by have:=(hown.lt b e).1;omega)
 exact Oth.below hbg ho hwB hbg.size
theorem oCopiedF_upto (m:Nat) (hmm:m≤100000):∀ (pf:Lfc.Pf) (q:Nat→Prop) (ix:Int) (A A1 A2:Option Addr) (n n1 n2 c c1 c2:Nat) (w:World),pf.size≤m→PfP q w pf (.int .i64 ix) (.slice A n c) (.slice A1 n1 c1) (.slice A2 n2 c2) →
  Calls Tryz.prog 37 #[.agg #[.int .i64 ix,.slice A n c,.slice A1 n1 c1,.slice A2 n2 c2]] w (CopAns w):=by
 induction m with
 | zero=>intro pf q ix A A1 A2 n n1 n2 c c1 c2 w h;have:=pf.size_pos;omega
 | succ m ih0 =>
  intro pf q ix A A1 A2 n n1 n2 c c1 c2 w hm hp
  have IH:=zH (ih0 (by omega))
  clear ih0
  obtain ⟨ps⟩:=pf
  rw [PfP] at hp
  obtain ⟨_,⟨A',c',e,hc,hps⟩,⟨A1',n1',c1',e1,hn1,hl1⟩,⟨A2',n2',c2',e2,hn2,hl2⟩⟩:=hp
  injection e with e3 e4 e5
  subst e3 e4 e5
  injection e1 with e3 e4 e5
  subst e3 e4 e5
  injection e2 with e3 e4 e5
  subst e3 e4 e5
  rw [Lfc.Pf.size] at hm
  have hsl:=Lfc.Pf.sizes_len ps
  obtain ⟨n,hn⟩:∃n,ps.length=n:=⟨_,rfl⟩
  obtain ⟨i0,hi,hz0,hz1,hz2⟩:=info_parts proofInfo
  obtain ⟨w1,hw1⟩:∃w1,w.alloc (.cells #[.int .i64 ix,.slice A n c,.slice A1 n1 c1,.slice A2 n2 c2] 39)=w1:=⟨_,rfl⟩
  obtain ⟨w2,hw2⟩:∃w2,w1.alloc (.cells #[.int .i64 0,.slice none 0 0,.slice none 0 0,.slice none 0 0] 39)=w2:=⟨_,rfl⟩
  have b1:=zG hw1
  have b2:=zG hw2
  have q1:=zQ hw1
  have q2:=zQ hw2
  have l1:=zL q1
  have l2:=zL q2
  have b02:Below w.heap.size w w2:=b1.trans (b2.mono (by omega))
  have s02:w.heap.size≤w2.heap.size:=by omega
  have Q1:=zH ((b2.block _ l1).trans q1)
  have Q2:=zH q2
  have B02:=zH b02
  have CL:Hid (∀W,Below w2.heap.size w2 W→Calls Tryz.prog 64 #[.slice A1 n1 c1] W fun e w'=>(∃A' n' c',e=.returned (.slice A' n' c'))∧Below W.heap.size W w'):=zH (fun W hW=>by
   obtain ⟨_,l,hll,hl,hlz⟩:=hl1
   have hb:=b02.trans (hW.mono s02)
   have:=oLinks_any q l A1 c1 W (by omega) hlz (hl.below hb)
   rw [hll] at this
   refine this.mono ?_
   rintro e w' ⟨⟨A',c',rfl,_,_⟩,hb'⟩
   exact ⟨⟨_,_,_,rfl⟩,hb'⟩)
  have CM:Hid (∀W,Below w2.heap.size w2 W→Calls Tryz.prog 64 #[.slice A2 n2 c2] W fun e w'=>(∃A' n' c',e=.returned (.slice A' n' c'))∧Below W.heap.size W w'):=zH (fun W hW=>by
   obtain ⟨_,l,hll,hl,hlz⟩:=hl2
   have hb:=b02.trans (hW.mono s02)
   have:=oLinks_any q l A2 c2 W (by omega) hlz (hl.below hb)
   rw [hll] at this
   refine this.mono ?_
   rintro e w' ⟨⟨A',c',rfl,_,_⟩,hb'⟩
   exact ⟨⟨_,_,_,rfl⟩,hb'⟩)
  have SC:Hid (∀W,Below w2.heap.size w2 W→W.cell? ⟨w.heap.size,0,none⟩=some (.int .i64 ix)∧W.cell? ⟨w.heap.size,2,none⟩=some (.slice A1 n1 c1)∧W.cell? ⟨w.heap.size,3,none⟩=some (.slice A2 n2 c2)):=zH (fun W hW=>by
   have e:=(hW.block _ (by omega)).trans Q1.out
   exact ⟨zC e 0,zC e 2,zC e 3⟩)
  have PTS:Hid (∀k (h:k<ps.length),∃b o,A=some ⟨b,o,none⟩∧b<w.heap.size∧∃ix1 B1 m1 d1 B2 m2 d2 B3 m3 d3,w.cell? ⟨b,o+k*4,none⟩=some (.int .i64 ix1)∧w.cell? ⟨b,o+k*4+1,none⟩=some (.slice B1 m1 d1)∧w.cell? ⟨b,o+k*4+2,none⟩=some (.slice B2 m2 d2)∧w.cell? ⟨b,o+k*4+3,none⟩=some (.slice B3 m3 d3)∧PfP q w ps[k] (.int .i64 ix1) (.slice B1 m1 d1) (.slice B2 m2 d2) (.slice B3 m3 d3)):=zH (fun k hk=>by
   obtain ⟨b,o,hA,hlt,hqb,hh⟩:=hps (by intro h0;rw [h0] at hk;cases hk)
   obtain ⟨v0,v1,v2,v3,c0,c1',c2',c3,hP⟩:=PfsP.at_ ps o k hk hh
   have hP':=hP
   cases hpk:ps[k] with
   | node rs =>
    rw [hpk,PfP] at hP
    obtain ⟨⟨ix1,rfl⟩,⟨B1,d1,rfl,_,_⟩,⟨B2,m2,d2,rfl,_,_⟩,⟨B3,m3,d3,rfl,_,_⟩⟩:=hP
    rw [hpk] at hP'
    exact ⟨b,o,hA,hlt,ix1,B1,_,d1,B2,m2,d2,B3,m3,d3,c0,c1',c2',c3,hP'⟩)
  have HM:Hid (∀k (h:k<ps.length),ps[k].size≤m):=zH (fun k h=>by have:=Lfc.Pf.sizes_mem ps ps[k] (List.getElem_mem _);omega)
  have HN:=zH hn
  have hnb:n≤100000:=by omega
  have G0:Below w2.heap.size w2 w2.drew:=(zB _ _).drew
  rw [hn]
  clear b1 b2 q1 q2 b02 hl1 hl2 hps hc hm hsl hn
  go_enter Tryz.func37,Tryz.ntmps37
  go_upto_region 1 with fail
  clear hw1 hw2
  go_cut [3] (fun s wx=>Hid (CpX w2 ix s wx))
  case first =>
   refine wp_region_held_drew (S:=fun W=>W.cell? ⟨w.heap.size,0,none⟩=some (.int .i64 ix)∧W.cell? ⟨w.heap.size,2,none⟩=some (.slice A1 n1 c1)∧W.cell? ⟨w.heap.size,3,none⟩=some (.slice A2 n2 c2)) (by kernel_rfl) ?_ (fun hHeld=>?_)
   ·exact SC.out _ G0
   refine tk 0 ?_
   refine tk 1 ?_
   refine tk 2 ?_
   refine tk 3 ?_
   refine tk 5 ?_
   refine tk 6 ?_
   refine wpAnyH_ready (rs:=[4,9]) (by kernel_rfl) (by simp) ?_
   refine AllReadyH.cons rfl (fun K hK=>?_) ?_
   ·go_simp
    go_at_call 64
    refine (CL.out _ (G0)).mono ?_
    rintro e w5 ⟨⟨A5,N5,c5,rfl⟩,b5'⟩
    have b5:=(G0).trans (b5'.mono (G0).size)
    refine hK.out _ _ (SC.out _ b5) (fun hHeld=>nrm ?_)
    clear hK K
    refine wpAnyH_ready (rs:=[7,9]) (by kernel_rfl) (by simp) ?_
    refine AllReadyH.cons rfl (fun K hK=>?_) ?_
    ·go_simp
     go_at_call 64
     refine (CM.out _ (b5)).mono ?_
     rintro e w6 ⟨⟨A6,N6,c6,rfl⟩,b6'⟩
     have b6:=(b5).trans (b6'.mono (b5).size)
     refine hK.out _ _ (SC.out _ b6) (fun hHeld=>nrm ?_)
     clear hK K
     have bA:Below w2.heap.size w2 (w6.alloc (.cells #[.int .i64 0,.slice none 0 0,.slice none 0 0,.slice none 0 0] 39)):=b6.alloc b6.size _
     have bN:Below w2.heap.size w2 (w6.alloc (.cells #[.int .i64 ix,.slice none 0 0,.slice A5 N5 c5,.slice A6 N6 c6] 39)):=b6.alloc b6.size _
     refine tk 8 ?_
     refine wpAnyH_ready (rs:=[9]) (by kernel_rfl) (by simp) ?_
     refine AllReadyH.cons rfl (fun K hK=>?_) ?_
     ·go_simp
      refine hK.out _ _ (SC.out _ bA) (fun hHeld=>nrm ?_)
      clear hK K
      have HR:Hid (CpX w2 ix (.pointer (some ⟨w6.heap.size,0,none⟩)) (w6.alloc (.cells #[.int .i64 ix,.slice none 0 0,.slice A5 N5 c5,.slice A6 N6 c6] 39))):=zH ⟨w6.heap.size,A5,A6,N5,N6,c5,c6,rfl,zW _ _,bN,b6.size⟩
      refine wpAnyH_ready (rs:=[10]) (by kernel_rfl) (by simp) ?_
      refine AllReadyH.cons rfl (fun K hK=>?_) ?_
      ·go_simp
       refine hK.out _ _ (SC.out _ bN) (fun hHeld=>nrm ?_)
       clear hK K
       refine wpAnyH_done (by kernel_rfl) ?_ _
       go_wp2_with fail
       go_meet
       exact HR
      exact AllReadyH.nil
     exact AllReadyH.nil
    refine AllReadyH.cons rfl (fun K hK=>?_) ?_
    ·have bA:Below w2.heap.size w2 (w5.alloc (.cells #[.int .i64 0,.slice none 0 0,.slice none 0 0,.slice none 0 0] 39)):=b5.alloc b5.size _
     have hsA:(w5.alloc (.cells #[.int .i64 0,.slice none 0 0,.slice none 0 0,.slice none 0 0] 39)).heap.size=w5.heap.size+1:=by simp
     have hgs:w2.heap.size≤w5.heap.size:=b5.size
     go_simp
     refine hK.out _ _ (SC.out _ bA) (fun hHeld=>nrm ?_)
     clear hK K
     refine wpAnyH_ready (rs:=[7]) (by kernel_rfl) (by simp) ?_
     refine AllReadyH.cons rfl (fun K hK=>?_) ?_
     ·go_simp
      go_at_call 64
      refine (CM.out _ (bA)).mono ?_
      rintro e w6 ⟨⟨A6,N6,c6,rfl⟩,b6'⟩
      have b6:=(bA).trans (b6'.mono (bA).size)
      refine hK.out _ _ (SC.out _ b6) (fun hHeld=>nrm ?_)
      clear hK K
      refine tk 8 ?_
      obtain ⟨s1,s2,s3,s4,h1',h2',h3',h4',⟨y0,y1,y2,y3⟩,⟨ff0,ff1,ff2,ff3⟩,hq,hot⟩:=put4 ((b6'.block _ (by rw [hsA];omega)).trans (zW w5 _)) (.int .i64 ix) (.slice none 0 0) (.slice A5 N5 c5) (.slice A6 N6 c6)
      have BS:=zH (Oth.below b6 hot hgs b6.size)
      have HR:Hid (CpX w2 ix (.pointer (some ⟨w5.heap.size,0,none⟩)) s4):=zH ⟨w5.heap.size,A5,A6,N5,N6,c5,c6,rfl,hq,BS.out,hgs⟩
      clear hq hot
      refine wpAnyH_ready (rs:=[10]) (by kernel_rfl) (by simp) ?_
      refine AllReadyH.cons rfl (fun K hK=>?_) ?_
      ·go_simp
       refine hK.out _ _ (SC.out _ BS.out) (fun hHeld=>nrm ?_)
       clear hK K
       refine wpAnyH_done (by kernel_rfl) ?_ _
       go_wp2_with fail
       go_meet
       exact HR
      exact AllReadyH.nil
     exact AllReadyH.nil
    exact AllReadyH.nil
   refine AllReadyH.cons rfl (fun K hK=>?_) ?_
   ·have bA:Below w2.heap.size w2 (w2.drew.alloc (.cells #[.int .i64 0,.slice none 0 0,.slice none 0 0,.slice none 0 0] 39)):=G0.alloc G0.size _
    have hsA:(w2.drew.alloc (.cells #[.int .i64 0,.slice none 0 0,.slice none 0 0,.slice none 0 0] 39)).heap.size=w2.heap.size+1:=by simp
    have hgs:w2.heap.size≤w2.heap.size:=zN _
    go_simp
    refine hK.out _ _ (SC.out _ bA) (fun hHeld=>nrm ?_)
    clear hK K
    refine wpAnyH_ready (rs:=[4]) (by kernel_rfl) (by simp) ?_
    refine AllReadyH.cons rfl (fun K hK=>?_) ?_
    ·go_simp
     go_at_call 64
     refine (CL.out _ (bA)).mono ?_
     rintro e w5 ⟨⟨A5,N5,c5,rfl⟩,b5'⟩
     have b5:=(bA).trans (b5'.mono (bA).size)
     refine hK.out _ _ (SC.out _ b5) (fun hHeld=>nrm ?_)
     clear hK K
     refine wpAnyH_ready (rs:=[7]) (by kernel_rfl) (by simp) ?_
     refine AllReadyH.cons rfl (fun K hK=>?_) ?_
     ·go_simp
      go_at_call 64
      refine (CM.out _ (b5)).mono ?_
      rintro e w6 ⟨⟨A6,N6,c6,rfl⟩,b6'⟩
      have b6:=(b5).trans (b6'.mono (b5).size)
      refine hK.out _ _ (SC.out _ b6) (fun hHeld=>nrm ?_)
      clear hK K
      have hs5:=b5'.size
      simp at hs5
      refine tk 8 ?_
      obtain ⟨s1,s2,s3,s4,h1',h2',h3',h4',⟨y0,y1,y2,y3⟩,⟨ff0,ff1,ff2,ff3⟩,hq,hot⟩:=put4 ((b6'.block _ (by omega)).trans ((b5'.block w2.heap.size (by simp)).trans (zW w2 _))) (.int .i64 ix) (.slice none 0 0) (.slice A5 N5 c5) (.slice A6 N6 c6)
      have BS:=zH (Oth.below b6 hot hgs b6.size)
      have HR:Hid (CpX w2 ix (.pointer (some ⟨w2.heap.size,0,none⟩)) s4):=zH ⟨w2.heap.size,A5,A6,N5,N6,c5,c6,rfl,hq,BS.out,hgs⟩
      clear hq hot
      refine wpAnyH_ready (rs:=[10]) (by kernel_rfl) (by simp) ?_
      refine AllReadyH.cons rfl (fun K hK=>?_) ?_
      ·go_simp
       refine hK.out _ _ (SC.out _ BS.out) (fun hHeld=>nrm ?_)
       clear hK K
       refine wpAnyH_done (by kernel_rfl) ?_ _
       go_wp2_with fail
       go_meet
       exact HR
      exact AllReadyH.nil
     exact AllReadyH.nil
    exact AllReadyH.nil
   exact AllReadyH.nil
  obtain ⟨B,A5,A6,N5,N6,c5,c6,rfl,hqB,hbx,hBw⟩:=hcut.out
  clear hcut SC CL CM G0
  obtain ⟨wq,hwq⟩:∃wq,wq=wc:=⟨_,rfl⟩
  subst hwq
  have lB:=zL hqB
  have I0:Hid (CoI w2 wq B ix (.slice A5 N5 c5) (.slice A6 N6 c6) 0 none 0 wq):=zH ⟨hqB,⟨[],World.ownsRow_nil wq wq.heap.size _ 4⟩,hbx,zN _⟩
  have HBX:=zH hbx
  have sbx:=hbx.size
  obtain ⟨y0,y1,y2,y3⟩:=cells4v ((hbx.block _ (by omega)).trans Q1.out)
  clear hqB hbx
  go_wp2_with fail
  go_loopw [18] (fun i wr=>∃ (k:Nat) (A':Option Addr) (c':Nat),k≤n∧i=.int .i64 (k:Int)∧Hid (CoI w2 wq B ix (.slice A5 N5 c5) (.slice A6 N6 c6) k A' c' wr)) (fun i _=>n-(intOf i).toNat)
  case atStart=>exact ⟨0,none,0,by omega,rfl,I0⟩
  clear I0 y0 y1 y2 y3
  obtain ⟨k,A7,c7,hk,rfl,HI⟩:=hrel
  have hb2r:=HI.out.bel
  by_cases hlt:k<n
  ·have hlt2:k<ps.length:=by rw [HN.out];exact hlt
   obtain ⟨b,o,rfl,hb,ix1,B1,m1,d1,B2,m2,d2,B3,m3,d3,e0,e1,e2,e3,hP⟩:=PTS.out k hlt2
   have hb0r:=B02.out.trans (hb2r.mono s02)
   have f0:=(hb0r.cell (p:=⟨b,o+k*4,none⟩) hb).trans e0
   have f1:=(hb0r.cell (p:=⟨b,o+k*4+1,none⟩) hb).trans e1
   have f2:=(hb0r.cell (p:=⟨b,o+k*4+2,none⟩) hb).trans e2
   have f3:=(hb0r.cell (p:=⟨b,o+k*4+3,none⟩) hb).trans e3
   have hi0:(0:Int)≤(k:Int):=Int.natCast_nonneg _
   have hi1:(k:Int)<(n:Int):=by omega
   obtain ⟨wx,hwx⟩:∃wx,wr.alloc (.cells #[.int .i64 ix1,.slice B1 m1 d1,.slice B2 m2 d2,.slice B3 m3 d3] 39)=wx:=⟨_,rfl⟩
   have bx:=zG hwx
   have qx:=zQ hwx
   have hbd:=(zB wx.heap.size wx).drew
   have hb0x:=hb0r.trans (bx.mono hb0r.size)
   have CA:=zH (IH.out ps[k] q ix1 B1 B2 B3 m1 m2 m3 d1 d2 d3 wx.drew (HM.out k hlt2) (PfP.keep (fun b _ hlt=>(hb0x.trans (hbd.mono hb0x.size)).block b hlt) (hb0x.trans (hbd.mono hb0x.size)).size (fun _ _ h=>h) _ _ _ _ _ hP))
   obtain ⟨xs,hown⟩:=HI.out.own
   have HOWN:=zH hown
   have HBX2:=zH bx
   have HWX:=zH hwx
   have hlm:k+1≤maxLen:=by unfold maxLen;omega
   have hl80:(k+1)*80≤140737488355328:=by omega
   have hsr:=HI.out.size
   have lBr:=zL HI.out.blk
   have QBx:=zH ((bx.block _ lBr).trans HI.out.blk)
   obtain ⟨y0,y1,y2,y3⟩:=cells4v QBx.out
   obtain ⟨x0,x1,x2,x3⟩:=cells4v qx
   have sxr:=bx.size
   have lbw:B<wx.heap.size:=by omega
   have hsx:wq.heap.size≤wx.heap.size:=by omega
   clear hwx bx qx e0 e1 e2 e3 hP hb0r hb2r hb0x hown hbd
   go_upto_region 5 with fail
   rw [HWX.out]
   clear HWX f0 f1 f2 f3
   go_region_law (first
    | (go_simp;go_at_call 37;refine CA.out.mono ?_;rintro e w9 ⟨⟨ix9,A9,A10,A11,n9,n10,n11,c9,c10,c11,rfl⟩,b9'⟩;have b9:Below wr.heap.size wr w9:=HBX2.out.trans (((zB wx.heap.size wx).drew.trans b9').mono HBX2.out.size);have hown9:=ownsRow_keep HOWN.out (fun g hg=>b9.block g (HOWN.out.lt g hg).2);have hs9:wq.heap.size≤w9.heap.size:=Nat.le_trans hsr b9.size;have q9:=(b9'.block B lbw).trans QBx.out;have z1:w9.cell? ⟨B,1,none⟩=some (.slice A7 k c7):=zC q9 1;have z1a:∀o,(w9.alloc o).cell? ⟨B,1,none⟩=some (.slice A7 k c7):=fun o=>zC ((zA _ _ _ (zL q9)).trans q9) 1)
    | (refine step_append_own_at _ (by rfl) _ _ 36 (by rfl) wq.heap.size 39 i0 (.agg #[.int .i64 0,.slice none 0 0,.slice none 0 0,.slice none 0 0]) 4 80 Tryz.underlying36 hi hz0 hz1 hz2 rfl (by decide) _ _ _ (by rfl) (hown9.alloc _) ⟨w9.heap.size,0,none⟩ 1 1 [.int .i64 ix9,.slice A9 n9 c9,.slice A10 n10 c10,.slice A11 n11 c11] (by rfl) (by rfl) (fun j u h=>ocells_new w9 _ rfl [.int .i64 ix9,.slice A9 n9 c9,.slice A10 n10 c10,.slice A11 n11 c11] _ j u h) oneCellP hlm hl80 (oalloc_le hs9) ?_;intro v' w10 hown10 hg10 hloc10;obtain ⟨A12,c12,rfl⟩:=oform hown10;obtain ⟨hr10,hfin⟩:=HI.out.step lB hBw b9 HOWN.out hown10 hg10;have y10:=(zC hr10 1:w10.cell? ⟨B,1,none⟩=some (.slice A7 k c7));have f10:=zF hr10 1))
   all_goals
    have HN2:=zH (hfin A12 c12 rfl)
    clear hfin hown10 hg10 hloc10 hr10 q9 hown9 b9 b9'
    go_wp2_with fail
    go_roundw
    case rel=>exact ⟨k+1,A12,c12,by omega,by go_num,HN2⟩
    case measure=>simp [intOf];omega
  obtain rfl:k=n:=by omega
  obtain ⟨z0,z1,z2,z3⟩:=cells4v HI.out.blk
  obtain ⟨s1,s2,s3,s4,h1,h2,h3,h4,⟨c0',c1',c2',c3'⟩,⟨t0,t1,t2,t3⟩,hq,ho⟩:=put4 ((hb2r.block _ l2).trans Q2.out) (.int .i64 ix) (.slice A7 k c7) (.slice A5 N5 c5) (.slice A6 N6 c6)
  have HQ:=zH hq
  have HZ:Hid (CopAns w (.returned (.agg #[.int .i64 ix,.slice A7 k c7,.slice A5 N5 c5,.slice A6 N6 c6])) s4):=zH ⟨⟨ix,_,_,_,_,_,_,_,_,_,rfl⟩,Oth.below (B02.out.trans (hb2r.mono s02)) ho (by omega) (Nat.le_trans s02 hb2r.size)⟩
  clear hq ho hb2r HI
  go_wp2_with fail
  refine bodyPost_ret (results_proof rfl _ _ _ _ _ _ _ rfl HQ.out) rfl ?_
  exact HZ.out
end Go.Proofs.YtadjpadieljjlaaGreat
