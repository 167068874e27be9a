/- Parts of the proof that no input makes the law false: OcPrv, OcHld, SmRow, SmUnder, SmRenP. -/
import Derived.Test.YtadjpadieljjlaaGreatIvAN
import Derived.Test.YtadjpadieljjlaaGreatIvAO
set_option linter.unusedVariables false
set_option linter.unusedSimpArgs false
set_option maxRecDepth 100000
set_option maxHeartbeats 32000000
namespace Lfc
def rels (ks:List Int) (fs:List Fact) (ts us:List Raw) (p:Ods) (rel:Int):Prop :=
 (rel=1∧Ods.ls (chF ks fs ts us 2) (chF ks fs ts us 1) (chB ks fs ts us) p)∨(rel=2∧Ods.le (chF ks fs ts us 2) (chF ks fs ts us 1) (chB ks fs ts us) p)∨(rel=3∧Ods.eq (chF ks fs ts us 1) (chB ks fs ts us) p)
def hldF (ks:List Int) (fs:List Fact) (o p:Ord) (ts us:List Raw) (rel:Int):Prop:=chkF fs o p ts us=0∧rels ks fs ts us (odsOf o p) rel
mutual
theorem odsOf_size:∀ (o p:Ord),(odsOf o p).size≤o.size
 | .node k a ps,.node _ a' ps'=>by
  have h:=odsOfs_size ps ps'
  rw [odsOf,Ord.size]
  split
  ·rw [Ods.size];omega
  split
  ·rw [Ods.size];omega
  rw [Ods.size];omega
theorem odsOfs_size:∀ (ps ps':List Ord),Ods.sizes (odsOfs ps ps')≤Ord.sizes ps
 | a :: r,b :: r'=>by
  have h1:=odsOf_size a b
  have h2:=odsOfs_size r r'
  rw [odsOfs,Ods.sizes,Ord.sizes]
  omega
 | [],_=>by rw [odsOfs,Ods.sizes];omega
 | _ :: _,[]=>by rw [odsOfs,Ods.sizes];omega
end
mutual
theorem odsOf_rng (n m:Nat):∀ (o p:Ord),o.shp p=true→o.form=true→p.form=true→o.rng 0 ((n:Int)-1)=true→p.rng 0 ((m:Int)-1)=true→(odsOf o p).rng n m
 | .node k a ps,.node k' a' ps',hs,hf,hf',hr,hr'=>by
  rw [Ord.shp,Bool.and_eq_true,decide_eq_true_eq] at hs
  obtain ⟨rfl,hs⟩:=hs
  rw [Ord.form] at hf hf'
  rw [Ord.rng] at hr hr'
  rw [odsOf]
  by_cases h1:k=1
  ·subst h1
   rw [if_neg (by decide),if_neg (by decide),Ods.rng]
   rw [if_pos rfl] at hr hr'
   simp only [Bool.and_eq_true,decide_eq_true_eq] at hr hr'
   omega
  rw [if_neg h1] at hf hf' hr hr'
  by_cases h2:k=2∨k=3
  ·rw [if_pos h2] at hf hf'
   simp only [Bool.and_eq_true] at hf hf'
   have h:=odsOfs_rng n m ps ps' hs hf.2 hf'.2 hr hr'
   rcases h2 with rfl | rfl
   ·rw [if_pos rfl,Ods.rng];exact h
   rw [if_neg (by decide),if_pos rfl,Ods.rng];exact h
  rw [if_neg h2] at hf;cases hf
theorem odsOfs_rng (n m:Nat):∀ (ps ps':List Ord),Ord.shps ps ps'=true→Ord.forms ps=true→Ord.forms ps'=true→Ord.rngs 0 ((n:Int)-1) ps=true→Ord.rngs 0 ((m:Int)-1) ps'=true→Ods.rngs n m (odsOfs ps ps')
 | a :: r,b :: r',hs,hf,hf',hr,hr'=>by
  rw [Ord.shps,Bool.and_eq_true] at hs
  rw [Ord.forms,Bool.and_eq_true] at hf hf'
  rw [Ord.rngs,Bool.and_eq_true] at hr hr'
  rw [odsOfs,Ods.rngs]
  exact ⟨odsOf_rng n m a b hs.1 hf.1 hf'.1 hr.1 hr'.1,odsOfs_rng n m r r' hs.2 hf.2 hf'.2 hr.2 hr'.2⟩
 | [],_,_,_,_,_,_=>by rw [odsOfs,Ods.rngs];trivial
 | _ :: _,[],_,_,_,_,_=>by rw [odsOfs,Ods.rngs];trivial
end
theorem vld_zero {o:Ord} {n:Int} (h:o.vld n=0):o.size≤64∧o.form=true∧o.rng 0 (n-1)=true:=by
 rw [Ord.vld] at h
 split at h
 ·cases h
 rename_i h1
 split at h
 ·cases h
 rename_i h2
 refine ⟨?_,?_,?_⟩
 ·by_cases h3:64<o.size
  ·exact absurd (.inl h3) h1
  omega
 ·cases hf:o.form
  ·exact absurd (.inr hf) h1
  rfl
 cases hf:o.rng 0 (n-1)
 ·exact absurd hf h2
 rfl
theorem chkF_zero {fs:List Fact} {o p:Ord} {ts us:List Raw} (h:chkF fs o p ts us=0):firstE (flat fs++ts++us)=0∧allO (flat fs++ts++us)=true∧o.vld ts.length=0∧p.vld us.length=0∧o.shp p=true:=by
 rw [chkF] at h
 split at h
 ·rename_i h1;exact absurd h h1
 rename_i h1
 split at h
 ·cases h
 rename_i h2
 split at h
 ·rename_i h3;exact absurd h h3
 rename_i h3
 split at h
 ·rename_i h4;exact absurd h h4
 rename_i h4
 split at h
 ·cases h
 rename_i h5
 refine ⟨by omega,?_,by omega,by omega,?_⟩
 ·cases hh:allO (flat fs++ts++us)
  ·exact absurd hh h2
  rfl
 cases hh:o.shp p
 ·exact absurd hh h5
 rfl
end Lfc
namespace Go.Proofs.YtadjpadieljjlaaGreat
open Go.RowKit Go.Maps
structure QuO (w:World) (fs:List Lfc.Fact) (F:Option Addr) (o p:Lfc.Ord) (vo vp:Value) (ts us:List Lfc.Raw) (L R:Option Addr) (cl cr:Nat) (ks:List Int) (A0:Option Addr):Prop where
 fl:fs.length≤64
 rl:∀f∈fs,f.rel=1∨f.rel=2∨f.rel=3
 fz:∀f∈fs,f.l.size≤1000000∧f.r.size≤1000000
 fs:FactsP (fun _=>True) w F fs
 os:o.size≤1000
 ps:p.size≤1000
 vo:OrdV w o vo
 vp:OrdV w p vp
 n:ts.length≤1000
 m:us.length≤1000
 st:∀t∈ts++us,t.size≤1000000
 l:L=none→ts.length=0∧cl=0
 r:R=none→us.length=0∧cr=0
 ts:TreesAt w L ts
 us:TreesAt w R us
 kl:ks.length≤1000000
 ks:IntsP (fun _=>True) w A0 ks
theorem QuO.below {w w':World} {fs:List Lfc.Fact} {F:Option Addr} {o p:Lfc.Ord} {vo vp:Value} {ts us:List Lfc.Raw} {L R:Option Addr} {cl cr:Nat} {ks:List Int} {A0:Option Addr} (h:QuO w fs F o p vo vp ts us L R cl cr ks A0) (hb:Below w.heap.size w w'):QuO w' fs F o p vo vp ts us L R cl cr ks A0 :=
 ⟨h.fl,h.rl,h.fz,h.fs.below hb,h.os,h.ps,h.vo.below hb,h.vp.below hb,h.n,h.m,h.st,h.l,h.r,h.ts.below hb,h.us.below hb,h.kl,h.ks.keep (fun b _ hlt=>hb.block b hlt) hb.size (fun _ _ h=>h)⟩
theorem TreesAt.toP {w:World} {A:Option Addr} {ts:List Lfc.Raw} (h:TreesAt w A ts):TreesAtP (fun b=>b<w.heap.size) w A ts:=fun hne=>by
 obtain ⟨b,o,hA,hb,hts⟩:=h hne
 exact ⟨b,o,hA,hb,hb,TreesO.toP (q:=fun b=>b<w.heap.size) (fun _ h=>h) ts b o hts⟩
theorem QuO.prover {w w1:World} {fs:List Lfc.Fact} {F:Option Addr} {o p:Lfc.Ord} {vo vp:Value} {ts us:List Lfc.Raw} {L R:Option Addr} {cl cr f0 c0:Nat} {ks:List Int} {A0:Option Addr} {Bx Mb:Nat} (h:QuO w fs F o p vo vp ts us L R cl cr ks A0) (hb:Below w.heap.size w w1) (hM:w.heap.size≤Mb) (hne:Bx≠Mb)
  (hq:w1.heap[Bx]?=some (.cells #[.slice F fs.length f0,.slice A0 ks.length c0,.slice L ts.length cl,.slice R us.length cr,.map (some Mb)] 85 (0,0))):PvO w1 Bx Mb F A0 L R f0 c0 cl cr fs ks ts us :=
 ⟨zL hq,hne,zC hq 0,zC hq 1,zC hq 2,zC hq 3,zC hq 4,
  h.fs.keep (fun b _ hlt=>hb.block b hlt) hb.size (fun b hlt _=>by omega),h.ks.keep (fun b _ hlt=>hb.block b hlt) hb.size (fun b hlt _=>by omega),
  h.ts.toP.keep (fun b _ hlt=>hb.block b hlt) hb.size (fun b hlt _=>by omega),h.us.toP.keep (fun b _ hlt=>hb.block b hlt) hb.size (fun b hlt _=>by omega)⟩
def PrvF (w:World) (r:Prop) (e:Ending) (w':World):Prop:=(∃ (ix:Int) (A A1 A2:Option Addr) (n n1 n2 c c1 c2:Nat) (b:Bool),e=.returned (.tuple #[.agg #[.int .i64 ix,.slice A n c,.slice A1 n1 c1,.slice A2 n2 c2],.bool b])∧(b=true↔r))∧Below w.heap.size w w'
theorem relIs_of {ks:List Int} {fs:List Lfc.Fact} {ts us:List Lfc.Raw} {p:Lfc.Ods} {rel:Int} (h:rel=1∨rel=2∨rel=3):RelIs (Lfc.chF ks fs ts us 2) (Lfc.chF ks fs ts us 1) (Lfc.chB ks fs ts us) p rel (Lfc.rels ks fs ts us p rel):=by
 rcases h with rfl | rfl | rfl
 ·exact .inl ⟨rfl,by simp [Lfc.rels]⟩
 ·exact .inr (.inl ⟨rfl,by simp [Lfc.rels]⟩)
 exact .inr (.inr ⟨rfl,by simp [Lfc.rels]⟩)
theorem oProveF_any (fs:List Lfc.Fact) (F:Option Addr) (o p:Lfc.Ord) (vo vp:Value) (ts us:List Lfc.Raw) (L R:Option Addr) (f0 cl cr c0:Nat) (ks:List Int) (A0:Option Addr) (rel:Int) (w:World) (hQ:QuO w fs F o p vo vp ts us L R cl cr ks A0) (hrel:rel=1∨rel=2∨rel=3) :
  Calls Tryz.prog 11 #[.slice F fs.length f0,.int .i64 rel,vo,.slice L ts.length cl,vp,.slice R us.length cr,.slice A0 ks.length c0] w (PrvF w (Lfc.hldF ks fs o p ts us rel)):=by
 have hvo:=hQ.vo
 have hvp:=hQ.vp
 obtain ⟨A1,c1,k1,a1,l1,rfl⟩:∃A c kd ar n,vo=.agg #[.int .i64 kd,.int .i64 ar,.slice A n c]:=by
  obtain ⟨kd,ar,ts⟩:=o
  obtain ⟨A,c,rfl,hc,hA⟩:=hvo.open_
  exact ⟨A,c,kd,ar,_,rfl⟩
 obtain ⟨A2,c2,k2,a2,l2,rfl⟩:∃A c kd ar n,vp=.agg #[.int .i64 kd,.int .i64 ar,.slice A n c]:=by
  obtain ⟨kd,ar,ts⟩:=p
  obtain ⟨A,c,rfl,hc,hA⟩:=hvp.open_
  exact ⟨A,c,kd,ar,_,rfl⟩
 obtain ⟨w1,hw1⟩:∃w1,w.alloc (.cells #[.int .i64 k1,.int .i64 a1,.slice A1 l1 c1] 26)=w1:=⟨_,rfl⟩
 obtain ⟨w2,hw2⟩:∃w2,w1.alloc (.cells #[.int .i64 k2,.int .i64 a2,.slice A2 l2 c2] 26)=w2:=⟨_,rfl⟩
 obtain ⟨w3,hw3⟩:∃w3,w2.alloc (.cells #[.int .i64 0,.slice none 0 0,.slice none 0 0,.slice none 0 0] 39)=w3:=⟨_,rfl⟩
 have b1:=zG hw1
 have b2:=zG hw2
 have b3:=zG hw3
 have q1:=zQ hw1
 have q2:=zQ hw2
 have q3:=zQ hw3
 have e1:=zL q1
 have e2:=zL q2
 have e3:=zL q3
 have b03:Below w.heap.size w w3:=(b1.trans (b2.mono (by omega))).trans (b3.mono (by omega))
 have Q1:=zH ((b3.block _ (by omega)).trans ((b2.block _ e1).trans q1))
 have Q2:=zH ((b3.block _ e2).trans q2)
 have Q3:=zH q3
 have B03:=zH b03
 have s03:w.heap.size≤w3.heap.size:=by omega
 obtain ⟨y0,y1,y2⟩:=cells3o Q1.out
 obtain ⟨z0,z1,z2⟩:=cells3o Q2.out
 have hQ3:=hQ.below b03
 have CK:=zH (oCheckF_any (fun _=>True) fs F f0 rel o p _ _ ts us L R cl cr w3 hQ.fl hQ3.fs hQ.rl hQ.fz hrel (by have:=hQ.os;omega) (by have:=hQ.ps;omega) hQ3.vo hQ3.vp hQ.n hQ.m hQ.st hQ.l hQ.r hQ3.ts hQ3.us)
 have HQ:=zH hQ
 have HQ3:=zH hQ3
 have HREL:=zH hrel
 obtain ⟨res,hres⟩:∃res,Lfc.hldF ks fs o p ts us rel=res:=⟨_,rfl⟩
 have HRES:=zH hres
 rw [hres]
 obtain ⟨z,hz⟩:∃z,Lfc.chkF fs o p ts us=z:=⟨_,rfl⟩
 have HZC:=zH hz
 rw [hz] at CK
 obtain ⟨n,hnn⟩:∃n,ts.length=n:=⟨_,rfl⟩
 obtain ⟨m,hmm⟩:∃m,us.length=m:=⟨_,rfl⟩
 obtain ⟨nf,hnf⟩:∃nf,fs.length=nf:=⟨_,rfl⟩
 obtain ⟨nk,hnk⟩:∃nk,ks.length=nk:=⟨_,rfl⟩
 have HNM:=zH (And.intro hnn (And.intro hmm (And.intro hnf hnk)))
 rw [hnn,hnf] at CK ⊢
 rw [hmm] at CK ⊢
 rw [hnk]
 clear hres hz hnn hmm hnf hnk hQ hQ3 hvo hvp hrel b1 b2 b3 q1 q2 q3 b03
 by_cases hz0:z=0
 ·have hmk:∀W:World,(Instr.makeMap 83 none).run Tryz.prog W=.ok (.map (some W.heap.size)) (W.alloc (.map #[] 0)):=fun W=>rfl
  have HC0:=zH (Lfc.chkF_zero (HZC.out.trans hz0))
  have HRR:Hid (res↔Lfc.rels ks fs ts us (Lfc.odsOf o p) rel):=zH (by
   rw [←HRES.out,Lfc.hldF]
   exact ⟨fun h=>h.2,fun h=>⟨HZC.out.trans hz0,h⟩⟩)
  subst hz0
  go_enter Tryz.func11,Tryz.ntmps11
  go_wp2_with fail
  refine CK.out.mono ?_
  rintro e w4 ⟨rfl,b4⟩
  clear hw1 hw2 hw3 CK
  obtain ⟨w5,hw5⟩:∃w5,w4.alloc (.map #[] 0)=w5:=⟨_,rfl⟩
  obtain ⟨w6,hw6⟩:∃w6,w5.alloc (.cells #[.slice F nf f0,.slice A0 nk c0,.slice L n cl,.slice R m cr,.map (some w4.heap.size)] 85)=w6:=⟨_,rfl⟩
  have b5:Below w4.heap.size w4 w5:=by rw [←hw5];exact (zB _ _).alloc (zN _) _
  have l5:w4.heap.size<w5.heap.size:=by rw [←hw5];simp
  have b6:=zG hw6
  have q6:=zQ hw6
  have l6:=zL q6
  have b36:Below w3.heap.size w3 w6:=b4.trans ((b5.trans (b6.mono b5.size)).mono b4.size)
  have s4:=b4.size
  have C6:Hid (Cache ks fs w4.heap.size (fun b=>b≠w4.heap.size) w6):=zH (by
   have h:Cache ks fs w4.heap.size (fun b=>b≠w4.heap.size) w5:=by rw [←hw5];exact EMap.made w4 _ _
   exact h.below b6)
  have hP6:Hid (PvO w6 w5.heap.size w4.heap.size F A0 L R f0 c0 cl cr fs ks ts us):=zH (HQ3.out.prover b36 (by omega) (by omega) (by rw [HNM.out.1,HNM.out.2.1,HNM.out.2.2.1,HNM.out.2.2.2];exact q6))
  have B36:=zH b36
  clear y0 y1 y2 z0 z1 z2
  obtain ⟨y0,y1,y2⟩:=cells3o ((b36.block _ (by omega)).trans Q1.out)
  obtain ⟨z0,z1,z2⟩:=cells3o ((b36.block _ (by omega)).trans Q2.out)
  obtain ⟨v1,v2,v3⟩:=Lfc.vld_zero HC0.out.2.2.1
  obtain ⟨v4,v5,v6⟩:=Lfc.vld_zero HC0.out.2.2.2.1
  have hQ6:=HQ3.out.below b36
  have CB:=zH (oBoth_upto 1000 (by omega) _ _ o p _ _ w6 hQ6.os HC0.out.2.2.2.2 v2 v5 v3 v6 hQ6.vo hQ6.vp)
  have HRG:Hid ((Lfc.odsOf o p).rng ts.length us.length∧(Lfc.odsOf o p).size≤1000):=zH ⟨Lfc.odsOf_rng _ _ o p HC0.out.2.2.2.2 v2 v5 v3 v6,by have:=Lfc.odsOf_size o p;omega⟩
  clear b4 b5 b6 q6 b36 v1 v2 v3 v4 v5 v6 hQ6
  go_wp2_with fail
  refine CB.out.mono ?_
  rintro e w7 ⟨⟨T,a,rfl,hods⟩,b7⟩
  have hods7:OdsP (fun b=>b≠w4.heap.size) w7 (Lfc.odsOf o p) (.iface T a):=OdsP.keep (fun _ _ _=>rfl) (zN _) (fun b _ hb=>by have hb:w6.heap.size≤b:=hb;omega) _ _ hods
  have C7:=C6.out.below b7
  have hP7:=hP6.out.oth (Oth.of_below b7)
  obtain ⟨T',a',f,g,he,hme,hmw,⟨hcf,hcg⟩,hcan⟩:=odsCan w5.heap.size w4.heap.size F A0 L R f0 c0 cl cr fs ks ts us HQ.out.kl (by have:=HQ.out.fl;omega) HQ.out.fz (fun t ht=>HQ.out.st t (List.mem_append_left _ ht)) (fun t ht=>HQ.out.st t (List.mem_append_right _ ht)) (by have:=HQ.out.n;omega) (by have:=HQ.out.m;omega) 1000 (by omega) _ _ w7 HRG.out.2 HRG.out.1 hP7 hods7
  injection he with he1 he2
  subst he1 he2
  have CP:=zH ((hcan w7 (fun b=>b≠w4.heap.size) (Oth.refl _ _) C7 (fun b hb=>by have:=b7.size;omega) (fun _ h=>h)).1 rel _ (relIs_of HREL.out))
  have B37:=zH (B36.out.trans (b7.mono B36.out.size))
  clear b7 y0 y1 y2 z0 z1 z2 CB hw5 hw6 hods hods7 C7 hP7 hmw hcg hcan
  go_wp2_with fail
  refine CP.out.mono ?_
  rintro e w8 ⟨⟨pf,ix,A,A1,A2,n9,n1,n2,c,c1,c2,bz,rfl,hpf,hpz,hb⟩,hC8,ho8⟩
  have b38:Below w3.heap.size w3 w8:=by
   have h:=B37.out
   exact ⟨ho8.os.trans h.os,ho8.tape.trans h.tape,ho8.output.trans h.output,Nat.le_trans h.size ho8.size,fun b hb=>(ho8.block b (Nat.lt_of_lt_of_le hb h.size) (fun e=>by have:=zO e;omega)).trans (h.block b hb)⟩
  obtain ⟨w9,hw9⟩:∃w9,w8.alloc (.cells #[.int .i64 ix,.slice A n9 c,.slice A1 n1 c1,.slice A2 n2 c2] 39)=w9:=⟨_,rfl⟩
  have b9:=zG hw9
  have q9:=zQ hw9
  have b39:=b38.trans (b9.mono b38.size)
  have HW9:=zH hw9
  have HB:=zH hb
  cases bz with
  | false =>
   obtain ⟨s1,s2,s3,s4,h1,h2,h3,h4,⟨c0',c1',c2',c3'⟩,⟨t0,t1,t2,t3⟩,hq,ho⟩:=put4 ((b39.block _ e3).trans Q3.out) (.int .i64 0) (.slice none 0 0) (.slice none 0 0) (.slice none 0 0)
   have HQ9:=zH hq
   have HZ:Hid (PrvF w res (.returned (.tuple #[.agg #[.int .i64 0,.slice none 0 0,.slice none 0 0,.slice none 0 0],.bool false])) s4):=zH ⟨⟨0,none,none,none,0,0,0,0,0,0,false,rfl,fun h=>(by cases h),fun h=>by have:=HB.out.2 (HRR.out.1 h);cases this⟩,Oth.below (B03.out.trans (b39.mono s03)) ho (by omega) (Nat.le_trans s03 b39.size)⟩
   clear hq ho b9 b39 b38 CP hw9 hpf hpz hb hC8 ho8 q9
   go_upto_region 5 with fail
   rw [HW9.out]
   go_wp2_with fail
   refine bodyPost_ret (results_proof2 rfl _ _ _ _ _ _ _ rfl HQ9.out) rfl ?_
   exact HZ.out
  | true =>
   obtain ⟨x0,x1,x2,x3⟩:=cells4v q9
   have CC:=zH (oCopiedF_upto 2000 (by omega) pf (fun b=>b≠w4.heap.size) ix A A1 A2 n9 n1 n2 c c1 c2 w9 (by have:=HRG.out.2;omega) (PfP.keep (fun b _ hlt=>b9.block b hlt) b9.size (fun _ _ h=>h) _ _ _ _ _ hpf))
   have B39:=zH b39
   clear b9 b39 b38 CP hw9 hpf hpz hb hC8 ho8 q9
   go_upto_region 5 with fail
   rw [HW9.out]
   go_wp2_with fail
   refine CC.out.mono ?_
   rintro e w10 ⟨⟨ix',A',A1',A2',m0,m1,m2,d,d1,d2,rfl⟩,b10⟩
   have b3a:=B39.out.trans (b10.mono B39.out.size)
   obtain ⟨s1,s2,s3,s4,h1,h2,h3,h4,⟨c0',c1',c2',c3'⟩,⟨t0,t1,t2,t3⟩,hq,ho⟩:=put4 ((b3a.block _ e3).trans Q3.out) (.int .i64 ix') (.slice A' m0 d) (.slice A1' m1 d1) (.slice A2' m2 d2)
   have HQ9:=zH hq
   have HZ:Hid (PrvF w res (.returned (.tuple #[.agg #[.int .i64 ix',.slice A' m0 d,.slice A1' m1 d1,.slice A2' m2 d2],.bool true])) s4):=zH ⟨⟨ix',A',A1',A2',m0,m1,m2,d,d1,d2,true,rfl,fun _=>HRR.out.2 (HB.out.1 (by simp)),fun _=>rfl⟩,Oth.below (B03.out.trans (b3a.mono s03)) ho (by omega) (Nat.le_trans s03 b3a.size)⟩
   clear hq ho b3a b10 CC x0 x1 x2 x3 HW9
   go_wp2_with fail
   refine bodyPost_ret (results_proof2 rfl _ _ _ _ _ _ _ rfl HQ9.out) rfl ?_
   exact HZ.out
 have HNR:Hid (¬res):=zH (by rw [←HRES.out,Lfc.hldF];exact fun h=>hz0 (HZC.out.symm.trans h.1))
 have hz1:(z == 0)=false:=by simpa using hz0
 have hz2:(z != 0)=true:=by simpa using hz0
 have hz3:decide (z=0)=false:=by simpa using hz0
 clear hz0
 go_enter Tryz.func11,Tryz.ntmps11
 go_wp2_with fail
 refine CK.out.mono ?_
 rintro e w4 ⟨rfl,b4⟩
 obtain ⟨s1,s2,s3,s4,h1,h2,h3,h4,⟨c0',c1',c2',c3'⟩,⟨t0,t1,t2,t3⟩,hq,ho⟩:=put4 ((b4.block _ e3).trans Q3.out) (.int .i64 0) (.slice none 0 0) (.slice none 0 0) (.slice none 0 0)
 have HQ9:=zH hq
 have HZ:Hid (PrvF w res (.returned (.tuple #[.agg #[.int .i64 0,.slice none 0 0,.slice none 0 0,.slice none 0 0],.bool false])) s4):=zH ⟨⟨0,none,none,none,0,0,0,0,0,0,false,rfl,fun h=>(by cases h),fun h=>absurd h HNR.out⟩,Oth.below (B03.out.trans (b4.mono s03)) ho (by omega) (Nat.le_trans s03 b4.size)⟩
 clear hq ho b4 y0 y1 y2 z0 z1 z2 CK
 go_wp2_with fail
 refine bodyPost_ret (results_proof2 rfl _ _ _ _ _ _ _ rfl HQ9.out) rfl ?_
 exact HZ.out
end Go.Proofs.YtadjpadieljjlaaGreat
namespace Go.Proofs.YtadjpadieljjlaaGreat
open Go.RowKit Go.Maps
def HldF (w:World) (z:Int) (r:Prop) (e:Ending) (w':World):Prop:=(∃b:Bool,e=.returned (.tuple #[.bool b,.int .i64 z])∧(b=true↔r))∧Below w.heap.size w w'
theorem oHoldsF_any (fs:List Lfc.Fact) (F:Option Addr) (o p:Lfc.Ord) (vo vp:Value) (ts us:List Lfc.Raw) (L R:Option Addr) (f0 cl cr c0:Nat) (ks:List Int) (A0:Option Addr) (rel:Int) (w:World) (hQ:QuO w fs F o p vo vp ts us L R cl cr ks A0) (hrel:rel=1∨rel=2∨rel=3) :
  Calls Tryz.prog 16 #[.slice F fs.length f0,.int .i64 rel,vo,.slice L ts.length cl,vp,.slice R us.length cr,.slice A0 ks.length c0] w (HldF w (Lfc.chkF fs o p ts us) (Lfc.hldF ks fs o p ts us rel)):=by
 have hvo:=hQ.vo
 have hvp:=hQ.vp
 obtain ⟨A1,c1,k1,a1,l1,rfl⟩:∃A c kd ar n,vo=.agg #[.int .i64 kd,.int .i64 ar,.slice A n c]:=by
  obtain ⟨kd,ar,ts⟩:=o
  obtain ⟨A,c,rfl,hc,hA⟩:=hvo.open_
  exact ⟨A,c,kd,ar,_,rfl⟩
 obtain ⟨A2,c2,k2,a2,l2,rfl⟩:∃A c kd ar n,vp=.agg #[.int .i64 kd,.int .i64 ar,.slice A n c]:=by
  obtain ⟨kd,ar,ts⟩:=p
  obtain ⟨A,c,rfl,hc,hA⟩:=hvp.open_
  exact ⟨A,c,kd,ar,_,rfl⟩
 obtain ⟨w1,hw1⟩:∃w1,w.alloc (.cells #[.int .i64 k1,.int .i64 a1,.slice A1 l1 c1] 26)=w1:=⟨_,rfl⟩
 obtain ⟨w2,hw2⟩:∃w2,w1.alloc (.cells #[.int .i64 k2,.int .i64 a2,.slice A2 l2 c2] 26)=w2:=⟨_,rfl⟩
 have b1:=zG hw1
 have b2:=zG hw2
 have q1:=zQ hw1
 have q2:=zQ hw2
 have e1:=zL q1
 have e2:=zL q2
 have b02:Below w.heap.size w w2:=b1.trans (b2.mono (by omega))
 have Q1:=zH ((b2.block _ e1).trans q1)
 have Q2:=zH q2
 have B02:=zH b02
 have s02:w.heap.size≤w2.heap.size:=by omega
 obtain ⟨y0,y1,y2⟩:=cells3o Q1.out
 obtain ⟨z0,z1,z2⟩:=cells3o Q2.out
 have hQ2:=hQ.below b02
 have CK:=zH (oCheckF_any (fun _=>True) fs F f0 rel o p _ _ ts us L R cl cr w2 hQ.fl hQ2.fs hQ.rl hQ.fz hrel (by have:=hQ.os;omega) (by have:=hQ.ps;omega) hQ2.vo hQ2.vp hQ.n hQ.m hQ.st hQ.l hQ.r hQ2.ts hQ2.us)
 have CP:Hid (∀W,Below w2.heap.size w2 W→Calls Tryz.prog 11 #[.slice F fs.length f0,.int .i64 rel,.agg #[.int .i64 k1,.int .i64 a1,.slice A1 l1 c1],.slice L ts.length cl,.agg #[.int .i64 k2,.int .i64 a2,.slice A2 l2 c2],.slice R us.length cr,.slice A0 ks.length c0] W (PrvF W (Lfc.hldF ks fs o p ts us rel))):=zH (fun W hW=>oProveF_any fs F o p _ _ ts us L R f0 cl cr c0 ks A0 rel W (hQ2.below hW) hrel)
 have HNO:Hid (Lfc.chkF fs o p ts us≠0→¬Lfc.hldF ks fs o p ts us rel):=zH (fun h h'=>h h'.1)
 obtain ⟨res,hres⟩:∃res,Lfc.hldF ks fs o p ts us rel=res:=⟨_,rfl⟩
 rw [hres] at CP HNO ⊢
 obtain ⟨z,hz⟩:∃z,Lfc.chkF fs o p ts us=z:=⟨_,rfl⟩
 rw [hz] at CK HNO ⊢
 obtain ⟨n,hnn⟩:∃n,ts.length=n:=⟨_,rfl⟩
 obtain ⟨m,hmm⟩:∃m,us.length=m:=⟨_,rfl⟩
 obtain ⟨nf,hnf⟩:∃nf,fs.length=nf:=⟨_,rfl⟩
 obtain ⟨nk,hnk⟩:∃nk,ks.length=nk:=⟨_,rfl⟩
 rw [hnn,hnf] at CK CP ⊢
 rw [hmm] at CK CP ⊢
 rw [hnk] at CP ⊢
 clear hz hres hQ hQ2 hvo hvp hrel b1 b2 q1 q2 b02 hnn hmm hnf hnk
 by_cases hz0:z=0
 ·subst hz0
  clear HNO
  go_enter Tryz.func16,Tryz.ntmps16
  go_wp2_with fail
  refine CK.out.mono ?_
  rintro e w4 ⟨rfl,b4⟩
  clear hw1 hw2 CK y0 y1 y2 z0 z1 z2
  obtain ⟨y0,y1,y2⟩:=cells3o ((b4.block _ (by omega)).trans Q1.out)
  obtain ⟨z0,z1,z2⟩:=cells3o ((b4.block _ (by omega)).trans Q2.out)
  have CPW:=zH (CP.out _ b4)
  have B4:=zH b4
  clear b4 CP
  go_wp2_with fail
  refine CPW.out.mono ?_
  rintro e w5 ⟨⟨ix,A,A1',A2',n0,n1,n2,c,c1',c2',b,rfl,hb⟩,b5⟩
  have HZ:=zH (B02.out.trans ((B4.out.trans (b5.mono B4.out.size)).mono s02))
  obtain ⟨w6,hw6⟩:∃w6,w5.alloc (.cells #[.int .i64 ix,.slice A n0 c,.slice A1' n1 c1',.slice A2' n2 c2'] 39)=w6:=⟨_,rfl⟩
  have HW6:=zH hw6
  have HB:=zH hb
  have HZ6:Hid (Below w.heap.size w w6):=zH (by rw [←hw6];exact HZ.out.alloc HZ.out.size _)
  clear hw6 b5 hb
  go_upto_region 5 with fail
  rw [HW6.out]
  go_wp2_with fail
  refine bodyPost_ret (results_tmp2 rfl _ _ _) rfl ?_
  exact ⟨⟨b,rfl,HB.out⟩,HZ6.out⟩
 have hz1:(z == 0)=false:=by simpa using hz0
 have hz2:(z != 0)=true:=by simpa using hz0
 have hz3:decide (z=0)=false:=by simpa using hz0
 have HRES:=zH (HNO.out hz0)
 clear hz0 HNO CP
 go_enter Tryz.func16,Tryz.ntmps16
 go_wp2_with fail
 refine CK.out.mono ?_
 rintro e w4 ⟨rfl,b4⟩
 have HZ:=zH (B02.out.trans (b4.mono s02))
 clear b4 CK y0 y1 y2 z0 z1 z2
 go_wp2_with fail
 refine bodyPost_ret (results_tmp2 rfl _ _ _) rfl ?_
 exact ⟨⟨false,rfl,fun h=>(by cases h),fun h=>absurd h HRES.out⟩,HZ.out⟩
end Go.Proofs.YtadjpadieljjlaaGreat
namespace Lfc
def headB (k p:Int) (n:List UInt8) (l:Nat):Bool:=(decide (k=3) && tbound n p l 1) || (decide (k=4) && isName n && decide (p=0)) || (decide (k=5) && decide (n=[]))
mutual
def Raw.posB (b:Int):Raw→Bool
 | .node k n p ts=>decide (0≤p) && decide (p≤b) && headB k p n ts.length && Raw.posBs b ts
def Raw.posBs (b:Int):List Raw→Bool
 | []=>true
 | a :: r=>Raw.posB b a && Raw.posBs b r
end
theorem posBs_app (b:Int) (x y:List Raw):Raw.posBs b (x++y)=(Raw.posBs b x && Raw.posBs b y):=by
 induction x with
 | nil=>simp [Raw.posBs]
 | cons a r ih=>simp only [List.cons_append,Raw.posBs,ih,Bool.and_assoc]
theorem posBs_at (b:Int):∀ (ts:List Raw),Raw.posBs b ts=true→∀k (h:k<ts.length),ts[k].posB b=true
 | [],_,k,h=>by simp at h
 | a :: r,hs,k,h=>by
  rw [Raw.posBs,Bool.and_eq_true] at hs
  cases k with
  | zero=>exact hs.1
  | succ k=>exact posBs_at b r hs.2 k (by simpa using h)
theorem Raw.ex (t:Raw):∃k n p ts,t=.node k n p ts:=by obtain ⟨k,n,p,ts⟩:=t;exact ⟨_,_,_,_,rfl⟩
end Lfc
namespace Go.Proofs.YtadjpadieljjlaaGreat
open Go.RowKit Go.Maps
theorem tset3 {W:World} {r:Nat} {v0 v1 v2 v3 v:Value} {t:TypeId} (h:W.heap[r]?=some (.cells #[v0,v1,v2,v3] t (0,0))):(W.setCell ⟨r,3,none⟩ v).heap[r]?=some (.cells #[v0,v1,v2,v] t (0,0)):=by
 simp [World.setCell,Array.getElem?_modify,h]
theorem oneCellT {k p:Int} {n:List UInt8} {A:Option Addr} {l c:Nat}:∀u∈[Value.int .i64 k,S n,.int .i64 p,.slice A l c],u.oneCell'=true:=by
 intro u hu
 simp at hu
 rcases hu with rfl | rfl | rfl | rfl <;> rfl
theorem term_infoM:∃i,Tryz.prog.info? 51=some i∧i.zero=some (.agg #[.int .i64 0,S [],.int .i64 0,.slice none 0 0])∧i.size=4∧i.bytes=56:=by
 obtain ⟨i0,hi,hz0,hz1,hz2⟩:=info_parts termInfo
 exact ⟨i0,hi,hz0,hz1,hz2⟩
theorem trm_final {base T r:Nat} {wx w9 w10 wa:World} {v v' k n p a0 a1 a2 a3:Value} {ts:List Lfc.Raw} {xs:List Value} {t:Lfc.Raw} (hr:r<base) (hT:T<r) (hb:base≤wx.heap.size) (hwa:wa.heap.size≤r)
  (hR:wx.heap[r]?=some (.cells #[k,n,p,v] 51 (0,0))) (hown:wx.ownsRow base 51 4 v ts.length xs) (hrow:RowP (fun b=>base≤b∧some b≠v.ownBlock) wx ts xs)
  (hTx:Oth T wa wx) (o9:Oth T wx.drew w9) (ht:TreeP (fun b=>wx.drew.heap.size≤b) w9 t a0 a1 a2 a3)
  (hown':w10.ownsRow base 51 4 v' (ts.length+1) (xs++[a0,a1,a2,a3]))
  (hg:(w9.alloc (.cells #[a0,a1,a2,a3] 51)).grownBy w10 v.ownBlock) (hloc:v'.ownBlock=v.ownBlock∨v'.ownBlock=some (w9.heap.size+1)) :
  w10.heap[r]?=some (.cells #[k,n,p,v] 51 (0,0))∧(w10.setCell ⟨r,3,none⟩ v').heap[r]?=some (.cells #[k,n,p,v'] 51 (0,0))∧(w10.setCell ⟨r,3,none⟩ v').ownsRow base 51 4 v' (ts++[t]).length (xs++[a0,a1,a2,a3]) ∧
  RowP (fun b=>base≤b∧some b≠v'.ownBlock) (w10.setCell ⟨r,3,none⟩ v') (ts++[t]) (xs++[a0,a1,a2,a3])∧Oth T wa (w10.setCell ⟨r,3,none⟩ v')∧base≤(w10.setCell ⟨r,3,none⟩ v').heap.size ∧
  (∀b,b<base→b≠r→b≠T→(w10.setCell ⟨r,3,none⟩ v').heap[b]?=wx.heap[b]?)∧(w10.setCell ⟨r,3,none⟩ v').heap[T]?=w9.heap[T]?:=by
 have s9:wx.heap.size≤w9.heap.size:=o9.size
 have s10:w9.heap.size+1≤w10.heap.size:=by have:=hg.size;simpa using this
 have hrx:=zL hR
 have hown_lt:∀g,v.ownBlock=some g→base≤g∧g<wx.heap.size:=fun g e=>hown.lt g e
 have hne:some r≠v.ownBlock:=fun e=>by have:=(hown_lt r e.symm).1;omega
 have hr9:w9.heap[r]?=some (.cells #[k,n,p,v] 51 (0,0)):=o9.heap hR (by omega)
 have hr10:w10.heap[r]?=some (.cells #[k,n,p,v] 51 (0,0)):=(hg.block r (by simp;omega) hne).trans ((zA _ _ _ (zL hr9)).trans hr9)
 have hne':v'.ownBlock≠some r:=fun e=>by have:=(hown'.lt r e).1;omega
 have hsz:(w10.setCell ⟨r,3,none⟩ v').heap.size=w10.heap.size:=by simp [World.setCell]
 have key:∀b,b≠r→some b≠v.ownBlock→b<w9.heap.size→(w10.setCell ⟨r,3,none⟩ v').heap[b]?=w9.heap[b]?:=fun b h1 h2 h3=>by
  rw [Below.heap_setCell _ _ _ _ (by show b≠r;omega),hg.block b (by simp;omega) h2,zA _ _ _ h3]
 have hq':∀b,base≤b→some b≠v.ownBlock→b<w9.heap.size→some b≠v'.ownBlock:=fun b _ h2 h3 e=>by
  rcases hloc with h | h
  ·exact h2 (e.trans h)
  have:=zO (e.trans h);omega
 refine ⟨hr10,tset3 hr10,?_,?_,?_,by omega,?_,?_⟩
 ·rw [List.length_append];exact ownsRow_setCell_other hown' hne' _
 ·refine RowP.append (RowP.one ?_) ?_
  ·refine TreeP.keep (fun b hb1 hlt=>?_) (by omega) (fun b hlt hb1=>?_) _ _ _ _ _ ht
   ·have hb1:wx.heap.size≤b:=hb1
    exact key b (by omega) (fun e=>by have:=(hown_lt b e.symm).2;omega) hlt
   have hb1:wx.heap.size≤b:=hb1
   exact ⟨by omega,hq' b (by omega) (fun e=>by have:=(hown_lt b e.symm).2;omega) hlt⟩
  refine RowP.keep (fun b hb1 hlt=>?_) (by omega) (fun b hlt hb1=>⟨hb1.1,hq' b hb1.1 hb1.2 (by omega)⟩) hrow
  rw [key b (by have:=hb1.1;omega) hb1.2 (by omega)]
  exact o9.block b hlt (fun e=>by have:=zO e;have:=hb1.1;omega)
 ·refine Oth.of_new (hTx.trans ((Oth.refl _ _).drew.trans o9)) ⟨?_,?_,?_,by omega,fun b hb1=>?_⟩
  ·exact hg.os
  ·exact hg.tape
  ·exact hg.output
  rw [Below.heap_setCell _ _ _ _ (by show b≠r;omega),hg.block b (by simp;omega) (fun e=>by have:=(hown_lt b e.symm).1;omega),zA _ _ _ (by omega)]
 ·intro b h1 h2 h3
  rw [key b h2 (fun e=>by have:=(hown_lt b e.symm).1;omega) (by omega)]
  exact o9.block b (by show b<wx.heap.size;omega) (fun e=>h3 (zO e))
 exact key T (by omega) (fun e=>by have:=(hown_lt T e.symm).1;omega) (by omega)
theorem trm_parts {base lo:Nat} {W:World} {A:Option Addr} {c:Nat} {ts:List Lfc.Raw} {xs:List Value} (hlo:lo≤base) (hown:W.ownsRow base 51 4 (.slice A ts.length c) ts.length xs) (hrow:RowP (fun b=>base≤b∧some b≠(Value.slice A ts.length c).ownBlock) W ts xs) :
  TreesAtP (fun b=>lo≤b) W A ts∧ts.length≤c:=by
 rcases hown.2 with ⟨h1,h2⟩ | ⟨g,cap,cur,hv,hbg,hg,hnc,_,_,_⟩
 ·exact ⟨fun hne=>absurd (List.length_eq_zero_iff.1 h2) hne,by rw [h2];exact Nat.zero_le _⟩
 injection hv with e1 _ e3
 subst e1 e3
 refine ⟨fun _=>⟨g,0,rfl,zL hg,by show lo≤g;omega,?_⟩,hnc⟩
 exact (RowP.keep (fun _ _ _=>rfl) (zN _) (fun b _ hb=>by have:=hb.1;show lo≤b;omega) hrow).lie (own_cells hown)
structure MkT (wa:World) (T R base P:Nat) (k:Int) (nm:List UInt8) (p:Int) (ts:List Lfc.Raw) (A:Option Addr) (c:Nat) (xs:List Value) (wr:World):Prop where
 r:wr.heap[R]?=some (.cells #[.int .i64 k,S nm,.int .i64 p,.slice A ts.length c] 51 (0,0))
 own:wr.ownsRow base 51 4 (.slice A ts.length c) ts.length xs
 row:RowP (fun b=>base≤b∧some b≠(Value.slice A ts.length c).ownBlock) wr ts xs
 oth:Oth T wa wr
 tape:TapeI T wr
 size:base≤wr.heap.size
 few:Lfc.Raw.sizes ts+ts.length≤ts.length*P
 posB:Lfc.Raw.posBs 100 ts=true
theorem TapeI.like {T:Nat} {w w':World} (h:TapeI T w) (hk:∀b,b≤T→w'.heap[b]?=w.heap[b]?):TapeI T w':=by
 obtain ⟨A,n,c,i,ht,hi,hn,hc⟩:=h.t
 refine ⟨⟨A,n,c,i,(hk T (zN _)).trans ht,hi,hn,fun hp=>?_⟩⟩
 obtain ⟨b,o,hA,hbT,hx⟩:=hc hp
 refine ⟨b,o,hA,hbT,fun k hk2=>?_⟩
 obtain ⟨x,hx⟩:=hx k hk2
 exact ⟨x,(World.cell?_of_block (hk b (by omega))).trans hx⟩
def MadeT (w:World) (T P:Nat) (e:Ending) (w':World):Prop :=
 (∃t v,e=.returned v∧TreeVP (fun b=>w.heap.size≤b) w' t v∧t.size+1≤P∧t.posB 100=true)∧TapeI T w'∧Oth T w w'
theorem MkT.step {wa wr w9 w10:World} {T R base P:Nat} {k p k9 p9:Int} {nm n9:List UInt8} {ts ts9:List Lfc.Raw} {A A9:Option Addr} {c c9:Nat} {xs:List Value} {v':Value} {t9:Lfc.Raw} (h:MkT wa T R base P k nm p ts A c xs wr) (hTR:T<R) (hRb:R<base) (hwa:wa.heap.size≤R)
  (o9:Oth T wr.drew w9) (T9:TapeI T w9) (hp9:TreeP (fun b=>wr.drew.heap.size≤b) w9 t9 (.int .i64 k9) (S n9) (.int .i64 p9) (.slice A9 ts9.length c9)) (hz9:t9.size+1≤P) (hm9:t9.posB 100=true)
  (hown':w10.ownsRow base 51 4 v' (ts.length+1) (xs++[.int .i64 k9,S n9,.int .i64 p9,.slice A9 ts9.length c9]))
  (hg:(w9.alloc (.cells #[.int .i64 k9,S n9,.int .i64 p9,.slice A9 ts9.length c9] 51)).grownBy w10 (Value.slice A ts.length c).ownBlock) (hloc:v'.ownBlock=(Value.slice A ts.length c).ownBlock∨v'.ownBlock=some (w9.heap.size+1)) :
  w10.heap[R]?=some (.cells #[.int .i64 k,S nm,.int .i64 p,.slice A ts.length c] 51 (0,0)) ∧
  (∀A10 c10,v'=.slice A10 (ts.length+1) c10→MkT wa T R base P k nm p (ts++[t9]) A10 c10 (xs++[.int .i64 k9,S n9,.int .i64 p9,.slice A9 ts9.length c9]) (w10.setCell ⟨R,3,none⟩ v')):=by
 obtain ⟨f0,f1,f2,f3,f4,f5,f6,f7⟩:=trm_final hRb hTR h.size hwa h.r h.own h.row h.oth o9 hp9 hown' hg hloc
 refine ⟨f0,?_⟩
 rintro A10 c10 rfl
 have el:(ts++[t9]).length=ts.length+1:=by rw [List.length_append];rfl
 refine ⟨by rw [el];exact f1,by rw [el];rw [el] at f2;exact f2,by rw [el];exact f3,f4,T9.like (fun b hb=>?_),f5,?_,?_⟩
 ·by_cases hbT:b=T
  ·rw [hbT];exact f7
  rw [f6 b (by omega) (by omega) hbT]
  exact (o9.block b (by have:=h.size;show b<wr.heap.size;omega) (fun e=>hbT (zO e))).symm
 ·rw [el,Lfc.Raw.sizes_app]
  have h1:=h.few
  simp only [Lfc.Raw.sizes]
  have h2:(ts.length+1)*P=ts.length*P+P:=Nat.succ_mul _ _
  omega
 rw [Lfc.posBs_app,h.posB]
 simp only [Lfc.Raw.posBs,hm9,Bool.and_true]
theorem MkT.done {w wa wr:World} {T R base PP P:Nat} {k p:Int} {nm:List UInt8} {ts:List Lfc.Raw} {A:Option Addr} {c:Nat} {xs:List Value} (h:MkT wa T R base PP k nm p ts A c xs wr) (hT:T<w.heap.size) (hwa:Oth T w wa) (hq:wa.heap[w.heap.size]?=some (.cells #[.int .i64 0,S [],.int .i64 0,.slice none 0 0] 51 (0,0))) (hR:w.heap.size<R) (hb:R<base) (hp:0≤p∧p≤100) (hn:nm.length≤1000000) (hl:ts.length≤2) (hP:P=2*PP) (hPP:1≤PP) (hh:Lfc.headB k p nm ts.length=true) :
  ∃s1 s2 s3 s4,wr.setCell ⟨w.heap.size,0,none⟩ (.int .i64 k)=s1∧s1.setCell ⟨w.heap.size,1,none⟩ (S nm)=s2∧s2.setCell ⟨w.heap.size,2,none⟩ (.int .i64 p)=s3∧s3.setCell ⟨w.heap.size,3,none⟩ (.slice A ts.length c)=s4 ∧
   (wr.cell? ⟨w.heap.size,0,none⟩=some (.int .i64 0)∧s1.cell? ⟨w.heap.size,1,none⟩=some (S [])∧s2.cell? ⟨w.heap.size,2,none⟩=some (.int .i64 0)∧s3.cell? ⟨w.heap.size,3,none⟩=some (.slice none 0 0)) ∧
   (wr.frozen? ⟨w.heap.size,0,none⟩=false∧s1.frozen? ⟨w.heap.size,1,none⟩=false∧s2.frozen? ⟨w.heap.size,2,none⟩=false∧s3.frozen? ⟨w.heap.size,3,none⟩=false) ∧
   s4.heap[w.heap.size]?=some (.cells #[.int .i64 k,S nm,.int .i64 p,.slice A ts.length c] 51 (0,0))∧Hid (MadeT w T P (.returned (.agg #[.int .i64 k,S nm,.int .i64 p,.slice A ts.length c])) s4):=by
 have hsb:=h.size
 have hpt:=trm_parts (lo:=R) (by omega) h.own h.row
 obtain ⟨s1,s2,s3,s4,g1,g2,g3,g4,hy,hf,hq4,hot⟩:=tput4 (h.oth.heap hq (show w.heap.size≠T by omega)) (.int .i64 k) (S nm) (.int .i64 p) (.slice A ts.length c)
 refine ⟨s1,s2,s3,s4,g1,g2,g3,g4,hy,hf,hq4,zH ⟨⟨.node k nm p ts,_,rfl,TreeVP.mk hn hpt.2 ?_,?_,?_⟩,h.tape.oth (by omega) hot,?_⟩⟩
 ·refine hpt.1.keep (fun b hb hlt=>?_) hot.size (fun b _ hb=>by have hb:R≤b:=hb;show w.heap.size≤b;omega)
  have hb:R≤b:=hb
  exact hot.block b hlt (fun e=>by have:=zO e;omega)
 ·have h1:=h.few
  have hls:=Lfc.Raw.sizes_len ts
  simp only [Lfc.Raw.size]
  rcases (show ts.length=0∨ts.length=1∨ts.length=2 by omega) with hl | hl | hl
  ·rw [hl] at h1;omega
  ·rw [hl] at h1;omega
  rw [hl] at h1;omega
 ·simp only [Lfc.Raw.posB,h.posB,hh,Bool.and_true,Bool.and_eq_true,decide_eq_true_eq]
  omega
 refine Oth.of_new (hwa.trans h.oth) ⟨hot.os,hot.tape,hot.output,hot.size,fun b hb=>hot.block b (by omega) (fun e=>by have:=zO e;omega)⟩
theorem MkT.start {wa wx wr:World} {T base P:Nat} {k p:Int} {nm:List UInt8} (hTx:Oth T wa wx) (hx:wx.heap.size+1=base) (o:Oth T wx wr) (hq:wr.heap[wx.heap.size]?=some (.cells #[.int .i64 k,S nm,.int .i64 p,.slice none 0 0] 51 (0,0))) (ht:TapeI T wr):MkT wa T wx.heap.size base P k nm p [] none 0 [] wr :=
 ⟨hq,⟨by simp,.inl ⟨rfl,rfl⟩⟩,by rw [RowP],hTx.trans o,ht,by have:=zL hq;omega,by simp [Lfc.Raw.sizes],by simp [Lfc.Raw.posBs]⟩
theorem tone {q:Nat→Prop} {W:World} {g:Nat} {t:Lfc.Raw} {v0 v1 v2 v3:Value} {ty:TypeId} (ht:TreeP q W t v0 v1 v2 v3) (hq:q g) (hg:W.heap[g]?=some (.cells #[v0,v1,v2,v3] ty (0,0))):TreesAtP q W (some ⟨g,0,none⟩) [t]:=fun _ =>
 ⟨g,0,rfl,zL hg,hq,(RowP.one ht).lie (fun j u hj=>by
  rw [Nat.zero_add]
  match j with
  | 0=>simp at hj;subst hj;exact zC hg 0
  | 1=>simp at hj;subst hj;exact zC hg 1
  | 2=>simp at hj;subst hj;exact zC hg 2
  | 3=>simp at hj;subst hj;exact zC hg 3
  | j+4=>simp at hj)⟩
theorem made_leaf {w wr:World} {T P:Nat} {k p:Int} {nm:List UInt8} (hT:T<w.heap.size) (ho:Oth T w wr) (ht:TapeI T wr) (hq:wr.heap[w.heap.size]?=some (.cells #[.int .i64 0,S [],.int .i64 0,.slice none 0 0] 51 (0,0))) (hp:0≤p∧p≤100) (hn:nm.length≤1000000) (hP:2≤P) (hh:Lfc.headB k p nm 0=true) :
  ∃s1 s2 s3 s4,wr.setCell ⟨w.heap.size,0,none⟩ (.int .i64 k)=s1∧s1.setCell ⟨w.heap.size,1,none⟩ (S nm)=s2∧s2.setCell ⟨w.heap.size,2,none⟩ (.int .i64 p)=s3∧s3.setCell ⟨w.heap.size,3,none⟩ (.slice none 0 0)=s4 ∧
   (wr.cell? ⟨w.heap.size,0,none⟩=some (.int .i64 0)∧s1.cell? ⟨w.heap.size,1,none⟩=some (S [])∧s2.cell? ⟨w.heap.size,2,none⟩=some (.int .i64 0)∧s3.cell? ⟨w.heap.size,3,none⟩=some (.slice none 0 0)) ∧
   (wr.frozen? ⟨w.heap.size,0,none⟩=false∧s1.frozen? ⟨w.heap.size,1,none⟩=false∧s2.frozen? ⟨w.heap.size,2,none⟩=false∧s3.frozen? ⟨w.heap.size,3,none⟩=false) ∧
   s4.heap[w.heap.size]?=some (.cells #[.int .i64 k,S nm,.int .i64 p,.slice none 0 0] 51 (0,0))∧Hid (MadeT w T P (.returned (.agg #[.int .i64 k,S nm,.int .i64 p,.slice none 0 0])) s4):=by
 obtain ⟨s1,s2,s3,s4,g1,g2,g3,g4,hy,hf,hq4,hot⟩:=tput4 hq (.int .i64 k) (S nm) (.int .i64 p) (.slice none 0 0)
 refine ⟨s1,s2,s3,s4,g1,g2,g3,g4,hy,hf,hq4,zH ⟨⟨.node k nm p [],_,rfl,TreeVP.mk (ts:=[]) hn (Nat.zero_le _) (fun h=>absurd rfl h),?_,?_⟩,ht.oth (by omega) hot,?_⟩⟩
 ·simp only [Lfc.Raw.size,Lfc.Raw.sizes];omega
 ·simp only [Lfc.Raw.posB,Lfc.Raw.posBs,List.length_nil,hh,Bool.and_true,Bool.and_eq_true,decide_eq_true_eq];omega
 exact Oth.of_new ho ⟨hot.os,hot.tape,hot.output,hot.size,fun b hb=>hot.block b (Nat.lt_of_lt_of_le hb ho.size) (fun e=>by have:=zO e;omega)⟩
theorem made_lam {w wx w2 w3:World} {T P PP:Nat} {k2 p2:Int} {n2:List UInt8} {ts2:List Lfc.Raw} {A2:Option Addr} {c2:Nat} {t2:Lfc.Raw} (hT:T<w.heap.size) (ho:Oth T w wx) (hlt:w.heap.size<wx.heap.size) (o2:Oth T wx w2) (b3:Below w2.heap.size w2 w3) (q3:w3.heap[w2.heap.size]?=some (.cells #[.int .i64 k2,S n2,.int .i64 p2,.slice A2 ts2.length c2] 51 (0,0)))
  (ht:TreeP (fun b=>wx.heap.size≤b) w2 t2 (.int .i64 k2) (S n2) (.int .i64 p2) (.slice A2 ts2.length c2)) (T2:TapeI T w2) (hz:t2.size+1≤PP) (hm:t2.posB 100=true) (hq:wx.heap[w.heap.size]?=some (.cells #[.int .i64 0,S [],.int .i64 0,.slice none 0 0] 51 (0,0))) (hP:P=2*PP) :
  ∃s1 s2 s3 s4,w3.setCell ⟨w.heap.size,0,none⟩ (.int .i64 3)=s1∧s1.setCell ⟨w.heap.size,1,none⟩ (S [])=s2∧s2.setCell ⟨w.heap.size,2,none⟩ (.int .i64 0)=s3∧s3.setCell ⟨w.heap.size,3,none⟩ (.slice (some ⟨w2.heap.size,0,none⟩) 1 1)=s4 ∧
   (w3.cell? ⟨w.heap.size,0,none⟩=some (.int .i64 0)∧s1.cell? ⟨w.heap.size,1,none⟩=some (S [])∧s2.cell? ⟨w.heap.size,2,none⟩=some (.int .i64 0)∧s3.cell? ⟨w.heap.size,3,none⟩=some (.slice none 0 0)) ∧
   (w3.frozen? ⟨w.heap.size,0,none⟩=false∧s1.frozen? ⟨w.heap.size,1,none⟩=false∧s2.frozen? ⟨w.heap.size,2,none⟩=false∧s3.frozen? ⟨w.heap.size,3,none⟩=false) ∧
   s4.heap[w.heap.size]?=some (.cells #[.int .i64 3,S [],.int .i64 0,.slice (some ⟨w2.heap.size,0,none⟩) 1 1] 51 (0,0))∧Hid (MadeT w T P (.returned (.agg #[.int .i64 3,S [],.int .i64 0,.slice (some ⟨w2.heap.size,0,none⟩) 1 1])) s4):=by
 have hs2:=o2.size
 have hs3:=b3.size
 obtain ⟨s1,s2,s3,s4,g1,g2,g3,g4,hy,hf,hq4,hot⟩:=tput4 ((b3.block _ (by omega)).trans (o2.heap hq (show w.heap.size≠T by omega))) (.int .i64 3) (S []) (.int .i64 0) (.slice (some ⟨w2.heap.size,0,none⟩) 1 1)
 have hlt3:=zL q3
 refine ⟨s1,s2,s3,s4,g1,g2,g3,g4,hy,hf,hq4,zH ⟨⟨.node 3 [] 0 [t2],_,rfl,TreeVP.mk (ts:=[t2]) (by simp) (zN _) ?_,?_,?_⟩,(T2.below b3).oth (by omega) hot,?_⟩⟩
 ·refine tone (TreeP.keep (fun b hb hl=>?_) (Nat.le_trans hs3 hot.size) (fun b _ hb=>by have hb:wx.heap.size≤b:=hb;show w.heap.size≤b;omega) _ _ _ _ _ ht) (by show w.heap.size≤w2.heap.size;omega) (hot.heap q3 (by omega))
  have hb:wx.heap.size≤b:=hb
  exact (hot.block b (by omega) (fun e=>by have:=zO e;omega)).trans (b3.block b hl)
 ·simp only [Lfc.Raw.size,Lfc.Raw.sizes];omega
 ·simp only [Lfc.Raw.posB,Lfc.Raw.posBs,hm,List.length_cons,List.length_nil];decide
 refine Oth.of_new ((ho.trans o2).of_new (b3.mono (by have:=ho.size;omega))) ⟨hot.os,hot.tape,hot.output,hot.size,fun b hb=>hot.block b (by omega) (fun e=>by have:=zO e;omega)⟩
end Go.Proofs.YtadjpadieljjlaaGreat
namespace Go.Proofs.YtadjpadieljjlaaGreat
open Go.RowKit
theorem sUnder_any (kd ps i:Int) (nm:List UInt8) (A:Option Addr) (l c:Nat) (w:World) :
  Calls Tryz.prog 76 #[.agg #[.int .i64 kd,S nm,.int .i64 ps,.slice A l c],.int .i64 i] w fun e w'=>(∃r:Nat,r≤1∧e=.returned (.int .i64 (r:Int)))∧Below w.heap.size w w':=by
 have HB:Hid (Below w.heap.size w (w.alloc (.cells #[.int .i64 kd,S nm,.int .i64 ps,.slice A l c] 51))):=zH ((zB _ _).alloc (zN _) _)
 by_cases h3:kd=3
 ·subst h3
  go_enter Tryz.func76,Tryz.ntmps76
  go_wp2_with fail
  go_ret
  exact ⟨⟨1,by omega,rfl⟩,HB.out⟩
 have g3:(kd == 3)=false:=by simpa using h3
 by_cases h2:kd=2∧i=1
 ·obtain ⟨rfl,rfl⟩:=h2
  clear h3
  go_enter Tryz.func76,Tryz.ntmps76
  go_wp2_with fail
  go_ret
  exact ⟨⟨1,by omega,rfl⟩,HB.out⟩
 have h4:(kd == 2)=false∨((kd == 2)=true∧(i == 1)=false):=by
  by_cases e:kd=2
  ·exact .inr ⟨by simp [e],by simpa using fun h=>h2 ⟨e,h⟩⟩
  exact .inl (by simpa using e)
 clear h2 h3
 rcases h4 with g2 | ⟨g2,g1⟩
 all_goals
  go_enter Tryz.func76,Tryz.ntmps76
  go_wp2_with fail
  go_ret
  exact ⟨⟨0,by omega,rfl⟩,HB.out⟩
end Go.Proofs.YtadjpadieljjlaaGreat
namespace Lfc
theorem headB_var {p p':Int} {n:List UInt8} {l:Nat} (h:headB 5 p n l=true):headB 5 p' n l=true:=by
 simp [headB] at h ⊢
 exact h
end Lfc
namespace Go.Proofs.YtadjpadieljjlaaGreat
open Go.RowKit Go.Maps
def RenAns (w:World) (n:Nat) (e:Ending) (w':World):Prop :=
 (∃k nm p ts A c b,e=.returned (.tuple #[.agg #[.int .i64 k,S nm,.int .i64 p,.slice A (List.length ts) c],.bool b])∧TreeVP (fun b=>w.heap.size≤b) w' (.node k nm p ts) (.agg #[.int .i64 k,S nm,.int .i64 p,.slice A (List.length ts) c])∧(Lfc.Raw.node k nm p ts).size≤n∧((b=true→Lfc.Raw.posB 1048576 (.node k nm p ts)=true)))∧Below w.heap.size w w'
structure RnI (wa:World) (R base:Nat) (k:Int) (nm:List UInt8) (p:Int) (n:Nat) (ts:List Lfc.Raw) (A:Option Addr) (c:Nat) (xs:List Value) (wr:World):Prop where
 r:wr.heap[R]?=some (.cells #[.int .i64 k,S nm,.int .i64 p,.slice A ts.length c] 51 (0,0))
 own:wr.ownsRow base 51 4 (.slice A ts.length c) ts.length xs
 row:RowP (fun b=>base≤b∧some b≠(Value.slice A ts.length c).ownBlock) wr ts xs
 below:Below R wa wr
 size:base≤wr.heap.size
 few:Lfc.Raw.sizes ts≤n
 pos:Lfc.Raw.posBs 1048576 ts=true
theorem RnI.step {wa wr w9 w10:World} {R base n n':Nat} {k p k9 p9:Int} {nm n9:List UInt8} {ts ts9:List Lfc.Raw} {A A9:Option Addr} {c c9:Nat} {xs:List Value} {v':Value} (h:RnI wa R base k nm p n ts A c xs wr) (hR:0<R) (hRb:R<base) (hwa:wa.heap.size≤R)
  (b9:Below wr.heap.size wr w9) (hp9:TreeP (fun b=>wr.heap.size≤b) w9 (.node k9 n9 p9 ts9) (.int .i64 k9) (S n9) (.int .i64 p9) (.slice A9 ts9.length c9)) (hn:n+(Lfc.Raw.node k9 n9 p9 ts9).size≤n') (hpo:Lfc.Raw.posB 1048576 (.node k9 n9 p9 ts9)=true)
  (hown':w10.ownsRow base 51 4 v' (ts.length+1) (xs++[.int .i64 k9,S n9,.int .i64 p9,.slice A9 ts9.length c9]))
  (hg:(w9.alloc (.cells #[.int .i64 k9,S n9,.int .i64 p9,.slice A9 ts9.length c9] 51)).grownBy w10 (Value.slice A ts.length c).ownBlock) (hloc:v'.ownBlock=(Value.slice A ts.length c).ownBlock∨v'.ownBlock=some (w9.heap.size+1)) :
  w10.heap[R]?=some (.cells #[.int .i64 k,S nm,.int .i64 p,.slice A ts.length c] 51 (0,0)) ∧
  (∀A10 c10,v'=.slice A10 (ts.length+1) c10→RnI wa R base k nm p n' (ts++[.node k9 n9 p9 ts9]) A10 c10 (xs++[.int .i64 k9,S n9,.int .i64 p9,.slice A9 ts9.length c9]) (w10.setCell ⟨R,3,none⟩ v')):=by
 have o9:Oth 0 wr.drew w9:=⟨b9.os,b9.tape,b9.output,b9.size,fun j hj _=>b9.block j hj⟩
 have hsz:=h.size
 obtain ⟨f0,f1,f2,f3,f4,f5,f6,f7⟩:=trm_final hRb hR h.size hwa h.r h.own h.row (Oth.of_below (h.below.mono hwa)) o9 hp9 hown' hg hloc
 refine ⟨f0,?_⟩
 rintro A10 c10 rfl
 have el:(ts++[Lfc.Raw.node k9 n9 p9 ts9]).length=ts.length+1:=by rw [List.length_append];rfl
 refine ⟨by rw [el];exact f1,by rw [el];rw [el] at f2;exact f2,by rw [el];exact f3,⟨f4.os,f4.tape,f4.output,f4.size,fun b hb=>?_⟩,f5,?_,?_⟩
 ·refine Eq.trans ?_ (h.below.block b hb)
  by_cases hb0:b=0
  ·rw [hb0,f7]
   exact b9.block 0 (by omega)
  exact f6 b (by omega) (by omega) hb0
 ·rw [Lfc.Raw.sizes_app]
  have h1:=h.few
  simp only [Lfc.Raw.sizes]
  omega
 rw [Lfc.posBs_app,h.pos]
 simp only [Lfc.Raw.posBs,hpo,Bool.and_true]
theorem RnI.start {wa wr:World} {R:Nat} {k p:Int} {nm:List UInt8} (hq:wr.heap[R]?=some (.cells #[.int .i64 k,S nm,.int .i64 p,.slice none 0 0] 51 (0,0))) (hb:Below R wa wr):RnI wa R (R+1) k nm p 0 [] none 0 [] wr :=
 ⟨hq,⟨by simp,.inl ⟨rfl,rfl⟩⟩,by rw [RowP],hb,zL hq,by simp [Lfc.Raw.sizes],rfl⟩
theorem ren_ret {w w2 wr:World} {G n:Nat} {k p:Int} {nm:List UInt8} {ts:List Lfc.Raw} {A:Option Addr} {c:Nat} {z0 z1 z2 z3:Value} (b:Bool) (hG:w.heap.size≤G) (hb:Below w.heap.size w wr) (hq:wr.heap[G]?=some (.cells #[z0,z1,z2,z3] 51 (0,0))) (hn:nm.length≤1000000) (hA:TreesAtP (fun b=>G<b) wr A ts∧ts.length≤c) (hsz:Lfc.Raw.sizes ts+1≤n) (hpo:b=true→Lfc.Raw.posB 1048576 (.node k nm p ts)=true) :
  ∃s1 s2 s3 s4,wr.setCell ⟨G,0,none⟩ (.int .i64 k)=s1∧s1.setCell ⟨G,1,none⟩ (S nm)=s2∧s2.setCell ⟨G,2,none⟩ (.int .i64 p)=s3∧s3.setCell ⟨G,3,none⟩ (.slice A ts.length c)=s4 ∧
   (wr.cell? ⟨G,0,none⟩=some z0∧s1.cell? ⟨G,1,none⟩=some z1∧s2.cell? ⟨G,2,none⟩=some z2∧s3.cell? ⟨G,3,none⟩=some z3) ∧
   (wr.frozen? ⟨G,0,none⟩=false∧s1.frozen? ⟨G,1,none⟩=false∧s2.frozen? ⟨G,2,none⟩=false∧s3.frozen? ⟨G,3,none⟩=false) ∧
   s4.heap[G]?=some (.cells #[.int .i64 k,S nm,.int .i64 p,.slice A ts.length c] 51 (0,0))∧Hid (RenAns w n (.returned (.tuple #[.agg #[.int .i64 k,S nm,.int .i64 p,.slice A ts.length c],.bool b])) s4):=by
 obtain ⟨s1,s2,s3,s4,g1,g2,g3,g4,hy,hf,hq4,hot⟩:=tput4 hq (.int .i64 k) (S nm) (.int .i64 p) (.slice A ts.length c)
 refine ⟨s1,s2,s3,s4,g1,g2,g3,g4,hy,hf,hq4,zH ⟨⟨k,nm,p,ts,A,c,b,rfl,TreeVP.mk hn hA.2 ?_,by rw [Lfc.Raw.size];exact hsz,hpo⟩,Oth.below hb hot hG hb.size⟩⟩
 refine hA.1.keep (fun j hj hlt=>hot.block j hlt (fun e=>by have e:=zO e;have hj:G<j:=hj;omega)) hot.size (fun j _ hj=>by have hj:G<j:=hj;show w.heap.size≤j;omega)
theorem ren_zero {w w2 wr:World} {G n:Nat} (hG:w.heap.size≤G) (hb:Below w.heap.size w wr) (hq:wr.heap[G]?=some (.cells #[.int .i64 0,S [],.int .i64 0,.slice none 0 0] 51 (0,0))) (hn:1≤n) :
  ∃s1 s2 s3 s4,wr.setCell ⟨G,0,none⟩ (.int .i64 0)=s1∧s1.setCell ⟨G,1,none⟩ (S [])=s2∧s2.setCell ⟨G,2,none⟩ (.int .i64 0)=s3∧s3.setCell ⟨G,3,none⟩ (.slice none 0 0)=s4 ∧
   (wr.cell? ⟨G,0,none⟩=some (.int .i64 0)∧s1.cell? ⟨G,1,none⟩=some (S [])∧s2.cell? ⟨G,2,none⟩=some (.int .i64 0)∧s3.cell? ⟨G,3,none⟩=some (.slice none 0 0)) ∧
   (wr.frozen? ⟨G,0,none⟩=false∧s1.frozen? ⟨G,1,none⟩=false∧s2.frozen? ⟨G,2,none⟩=false∧s3.frozen? ⟨G,3,none⟩=false) ∧
   s4.heap[G]?=some (.cells #[.int .i64 0,S [],.int .i64 0,.slice none 0 0] 51 (0,0))∧Hid (RenAns w n (.returned (.tuple #[.agg #[.int .i64 0,S [],.int .i64 0,.slice none 0 0],.bool false])) s4) :=
 ren_ret (w2:=w2) (ts:=[]) false hG hb hq (by simp) ⟨fun h=>absurd rfl h,zN _⟩ (by simp [Lfc.Raw.sizes];exact hn) (fun h=>by cases h)
def RnX (wr:World) (n:Nat) (s11 s12:Value) (wx:World):Prop:=∃g k nm p ts A c b,s11=.pointer (some ⟨g,0,none⟩)∧s12=.bool b∧wr.heap.size≤g∧wx.heap[g]?=some (.cells #[.int .i64 k,S nm,.int .i64 p,.slice A (List.length ts) c] 51 (0,0)) ∧
 TreeVP (fun b=>wr.heap.size≤b) wx (.node k nm p ts) (.agg #[.int .i64 k,S nm,.int .i64 p,.slice A (List.length ts) c])∧(Lfc.Raw.node k nm p ts).size≤n∧(b=true→Lfc.Raw.posB 1048576 (.node k nm p ts)=true)∧Below wr.heap.size wr wx
end Go.Proofs.YtadjpadieljjlaaGreat
