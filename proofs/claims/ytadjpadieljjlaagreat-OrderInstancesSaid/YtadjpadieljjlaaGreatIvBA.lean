/- Parts of the proof that no input makes the law false: OiO, OiX, OiC, OcTape, OrHold, OrExp, OrAwkP, OrAwake. -/
import Derived.Test.YtadjpadieljjlaaGreatIvAZ
set_option linter.unusedVariables false
set_option linter.unusedSimpArgs false
set_option maxRecDepth 100000
set_option maxHeartbeats 32000000
namespace Go.Proofs.YtadjpadieljjlaaGreat
open Go.RowKit Go.Maps
attribute [local go_sem ↓] Go.wp_at_zero Go.wp_at_succ
def SubAns (w:World) (r:Lfc.Raw→Prop) (e:Ending) (w':World):Prop :=
 (∃ (k p:Int) (nm:List UInt8) (ts:List Lfc.Raw) (A:Option Addr) (c:Nat) (b:Bool),e=.returned (.tuple #[.agg #[.int .i64 k,S nm,.int .i64 p,.slice A (List.length ts) c],.bool b])∧TreeVP (fun b=>w.heap.size≤b) w' (.node k nm p ts) (.agg #[.int .i64 k,S nm,.int .i64 p,.slice A (List.length ts) c])∧(b=true→r (.node k nm p ts)))∧Below w.heap.size w w'
theorem sub_ret {w wr:World} {r:Lfc.Raw→Prop} {G:Nat} {k p:Int} {nm:List UInt8} {ts:List Lfc.Raw} {A:Option Addr} {c:Nat} {z0 z1 z2 z3:Value} (b:Bool) (hb:Below w.heap.size w wr) (hr:b=true→r (.node k nm p ts)) (hG:w.heap.size≤G) (hq:wr.heap[G]?=some (.cells #[z0,z1,z2,z3] 51 (0,0))) (hv:TreeVP (fun b=>w.heap.size≤b∧b≠G) wr (.node k nm p ts) (.agg #[.int .i64 k,S nm,.int .i64 p,.slice A ts.length c])) :
  ∃s1 s2 s3 s4,wr.setCell ⟨G,0,none⟩ (.int .i64 k)=s1∧s1.setCell ⟨G,1,none⟩ (S nm)=s2∧s2.setCell ⟨G,2,none⟩ (.int .i64 p)=s3∧s3.setCell ⟨G,3,none⟩ (.slice A ts.length c)=s4 ∧
   (wr.cell? ⟨G,0,none⟩=some z0∧s1.cell? ⟨G,1,none⟩=some z1∧s2.cell? ⟨G,2,none⟩=some z2∧s3.cell? ⟨G,3,none⟩=some z3) ∧
   (wr.frozen? ⟨G,0,none⟩=false∧s1.frozen? ⟨G,1,none⟩=false∧s2.frozen? ⟨G,2,none⟩=false∧s3.frozen? ⟨G,3,none⟩=false) ∧
   s4.heap[G]?=some (.cells #[.int .i64 k,S nm,.int .i64 p,.slice A ts.length c] 51 (0,0))∧Hid (SubAns w r (.returned (.tuple #[.agg #[.int .i64 k,S nm,.int .i64 p,.slice A ts.length c],.bool b])) s4):=by
 obtain ⟨s1,s2,s3,s4,g1,g2,g3,g4,hy,hf,hq4,hot⟩:=tput4 hq (.int .i64 k) (S nm) (.int .i64 p) (.slice A ts.length c)
 refine ⟨s1,s2,s3,s4,g1,g2,g3,g4,hy,hf,hq4,zH ⟨⟨k,p,nm,ts,A,c,b,rfl,?_,hr⟩,?_⟩⟩
 ·exact hv.keep (fun b hb hlt=>hot.block b hlt (fun e=>hb.2 (zO e))) hot.size (fun b _ hb=>hb.1)
 exact Oth.below hb hot hG hb.size
theorem sub_zero {w wr:World} {r:Lfc.Raw→Prop} {G:Nat} {z0 z1 z2 z3:Value} (hb:Below w.heap.size w wr) (hG:w.heap.size≤G) (hq:wr.heap[G]?=some (.cells #[z0,z1,z2,z3] 51 (0,0))) :
  ∃s1 s2 s3 s4,wr.setCell ⟨G,0,none⟩ (.int .i64 0)=s1∧s1.setCell ⟨G,1,none⟩ (S [])=s2∧s2.setCell ⟨G,2,none⟩ (.int .i64 0)=s3∧s3.setCell ⟨G,3,none⟩ (.slice none 0 0)=s4 ∧
   (wr.cell? ⟨G,0,none⟩=some z0∧s1.cell? ⟨G,1,none⟩=some z1∧s2.cell? ⟨G,2,none⟩=some z2∧s3.cell? ⟨G,3,none⟩=some z3) ∧
   (wr.frozen? ⟨G,0,none⟩=false∧s1.frozen? ⟨G,1,none⟩=false∧s2.frozen? ⟨G,2,none⟩=false∧s3.frozen? ⟨G,3,none⟩=false) ∧
   s4.heap[G]?=some (.cells #[.int .i64 0,S [],.int .i64 0,.slice none 0 0] 51 (0,0))∧Hid (SubAns w r (.returned (.tuple #[.agg #[.int .i64 0,S [],.int .i64 0,.slice none 0 0],.bool false])) s4) :=
 sub_ret (k:=0) (nm:=[]) (p:=0) (ts:=[]) (A:=none) (c:=0) false hb (fun h=>by cases h) hG hq (TreeVP.mk (by decide) (zN _) (fun h=>absurd rfl h))
theorem oInst1_any (ks:List Int) (vs:List Lfc.Raw) (V:Lfc.Vals ks vs) (hvn:vs.length≤100) (hvz:∀x∈vs,x.size≤1000000) (Am Bs A0:Option Addr) (cm cs c0 g Vb Sb:Nat) (hAm:Am=none→vs.length=0∧cm=0) (t:Lfc.Raw) (v:Value) (w:World) (hz:t.size≤1000) (hio:t.isO=true) (hv:TreeV w t v) (hms:TreesAt w Am vs) (hss:SimsAt w Bs vs.length)
  (hg:w.cell? ⟨g,10,none⟩=some (.slice A0 ks.length c0)) (hgl:g<w.heap.size) (hV:w.cell? ⟨Vb,0,none⟩=some (.slice Am vs.length cm)) (hVl:Vb<w.heap.size) (hS:w.cell? ⟨Sb,0,none⟩=some (.slice Bs vs.length cs)) (hSl:Sb<w.heap.size) :
  Calls Tryz.prog 25 #[v,.pointer (some ⟨g,0,none⟩),.pointer (some ⟨Vb,0,none⟩),.pointer (some ⟨Sb,0,none⟩)] w (SubAns w (fun x=>Lfc.sbR vs t x 0)):=by
 have HV:=zH hv
 have HIO:=zH hio
 have hsr:=Lfc.scope_range t (by rw [Lfc.Raw.isO,Bool.and_eq_true] at hio;exact hio.1)
 have IS:Hid (t.scope≤(ks.length:Int)→t.inS vs.length 0):=zH (fun h=>Lfc.scope_inS t 0 (by rw [V.len];omega))
 obtain ⟨sc,hsc⟩:∃sc,t.scope=sc:=⟨_,rfl⟩
 have CM:Hid (∀W,Below w.heap.size w W→t.inS vs.length 0→Calls Tryz.prog 27 #[v,.slice Am vs.length cm,.slice Bs vs.length cs] W (MnyAns W (fun x=>Lfc.sbR vs t x 0))):=zH (fun W hb hin=>mMany_any ks vs V hvn hvz Am Bs cm cs hAm t v W hz (by rw [Lfc.Raw.isO,Bool.and_eq_true] at hio;exact hio.1) hin (hv.below hb) (hms.below hb) (hss.below hb))
 obtain ⟨res,hres⟩:∃res:Lfc.Raw→Prop,(fun x=>Lfc.sbR vs t x 0)=res:=⟨_,rfl⟩
 have CS0:Hid (∀W,Below w.heap.size w W→Calls Tryz.prog 26 #[v] W fun e w'=>e=.returned (.int .i64 sc)∧Below W.heap.size W w'):=zH (fun W hb=>by
  have:=mScopeO t v W hio (hv.below hb)
  rwa [hsc] at this)
 rw [hsc] at IS hsr
 rw [hres] at CM ⊢
 obtain ⟨ins,hins⟩:∃ins,t.inS vs.length 0=ins:=⟨_,rfl⟩
 rw [hins] at IS CM
 have hkl:ks.length=vs.length:=V.len.symm
 obtain ⟨kd,nm,ps,ts⟩:=t
 obtain ⟨A,c,rfl,hc,hA⟩:=hv.open_
 obtain ⟨w1,hw1⟩:∃w1,w.alloc (.cells #[.int .i64 kd,S nm,.int .i64 ps,.slice A ts.length c] 51)=w1:=⟨_,rfl⟩
 obtain ⟨w2,hw2⟩:∃w2,w1.alloc (.cells #[.int .i64 0,S [],.int .i64 0,.slice none 0 0] 51)=w2:=⟨_,rfl⟩
 have b1:=zG hw1
 have b2:=zG hw2
 have q1:=zQ hw1
 have q2:=zQ hw2
 have l1:=zL q1
 have l2:=zL q2
 have b12:Below w.heap.size w w2:=b1.trans (b2.mono (by omega))
 have B12:=zH b12
 have Q1:=zH ((b2.block _ l1).trans q1)
 have Q2:=zH q2
 have UP:Hid (∀W,Below w2.heap.size w2 W→Below w.heap.size w W):=zH (fun W h=>b12.trans (h.mono b12.size))
 have CS:Hid (∀W,Below w2.heap.size w2 W→Calls Tryz.prog 26 #[.agg #[.int .i64 kd,S nm,.int .i64 ps,.slice A ts.length c]] W fun e w'=>e=.returned (.int .i64 sc)∧Below W.heap.size W w'):=zH (fun W h=>CS0.out W (UP.out W h))
 have YV:Hid (∀W,Below w2.heap.size w2 W→W.cell? ⟨Vb,0,none⟩=some (.slice Am vs.length cm)∧W.cell? ⟨Sb,0,none⟩=some (.slice Bs vs.length cs)):=zH (fun W h=>⟨((UP.out W h).cell (p:=⟨Vb,0,none⟩) hVl).trans hV,((UP.out W h).cell (p:=⟨Sb,0,none⟩) hSl).trans hS⟩)
 obtain ⟨nk,hnk⟩:∃n,ks.length=n:=⟨_,rfl⟩
 rw [hnk] at hg IS hkl
 rw [←hkl] at YV CM
 have SC:Hid (∀W,Below w2.heap.size w2 W→((W.cell? ⟨w.heap.size,0,none⟩=some (.int .i64 kd)∧W.cell? ⟨w.heap.size,1,none⟩=some (S nm)∧W.cell? ⟨w.heap.size,2,none⟩=some (.int .i64 ps)∧W.cell? ⟨w.heap.size,3,none⟩=some (.slice A ts.length c))∧W.cell? ⟨g,10,none⟩=some (.slice A0 nk c0))):=zH (fun W h=>⟨cells4t ((h.block _ (by omega)).trans Q1.out),((UP.out W h).cell (p:=⟨g,10,none⟩) hgl).trans hg⟩)
 clear hv hA hms hss hg hV hS b1 b2 q1 q2 b12 hsc hres hins hnk hkl CS0 hz hio hvz hAm V HV HIO
 go_enter Tryz.func25,Tryz.ntmps25
 go_upto_region 1 with fail
 clear hw1 hw2
 go_cut [14] (fun s wx=>∃bb:Bool,s=.bool bb∧(bb=true↔sc>(nk:Int))∧Hid (Below w2.heap.size w2 wx))
 case first =>
  refine wp_region_held_drew (S:=fun W=>((W.cell? ⟨w.heap.size,0,none⟩=some (.int .i64 kd)∧W.cell? ⟨w.heap.size,1,none⟩=some (S nm)∧W.cell? ⟨w.heap.size,2,none⟩=some (.int .i64 ps)∧W.cell? ⟨w.heap.size,3,none⟩=some (.slice A ts.length c))∧W.cell? ⟨g,10,none⟩=some (.slice A0 nk c0))) (by kernel_rfl) ?_ (fun hHeld=>?_)
  ·exact SC.out _ (zB w2.heap.size w2).drew
  have b0:=(zB w2.heap.size w2).drew
  obtain ⟨wz,hwz⟩:∃wz,w2.drew=wz:=⟨_,rfl⟩
  rw [hwz] at b0 hHeld ⊢
  clear hwz
  refine tk 0 ?_
  refine tk 2 ?_
  refine tk 3 ?_
  refine tk 4 ?_
  refine rd1 1 (fun K hK=>?_)
  go_simp
  go_at_call 26
  refine (CS.out _ b0).mono ?_
  rintro e w3 ⟨rfl,b3⟩
  have b03:=b0.trans (b3.mono b0.size)
  refine hK.out _ _ (SC.out _ b03) (fun hHeld=>nrm ?_)
  clear hK K
  refine tk 5 ?_
  have HB:=zH b03
  refine wpAnyH_done (by kernel_rfl) ?_ _
  go_wp2_with fail
  go_meet
  exact ⟨_,rfl,by simp,HB⟩
 obtain ⟨bb,rfl,hbb,HB⟩:=hcut
 have hs:=HB.out.size
 cases bb with
 | true =>
  obtain ⟨s1,s2,s3,s4,g1,g2,g3,g4,⟨p0,p1,p2,p3⟩,⟨f0,f1,f2,f3⟩,hq,HZ⟩:=sub_zero (w:=w) (r:=res) (UP.out _ HB.out) (show w.heap.size≤w1.heap.size by omega) ((HB.out.block _ l2).trans Q2.out)
  have HQ:=zH hq
  clear hq hbb
  go_wp2_with fail
  refine bodyPost_ret (results_term2 rfl _ _ _ _ _ _ _ rfl HQ.out) rfl ?_
  exact HZ.out
 | false =>
  have hbig:¬sc>(nk:Int):=fun h=>by cases hbb.2 h
  have CMW:=zH (CM.out _ (UP.out _ HB.out) (IS.out (by omega)))
  obtain ⟨⟨x0,x1,x2,x3⟩,_⟩:=SC.out _ HB.out
  obtain ⟨y0,y1⟩:=YV.out _ HB.out
  clear hbig hbb CM IS
  go_wp2_with fail
  refine CMW.out.mono ?_
  rintro e w5 ⟨⟨k,p,n5,ts5,A5,c5,z,rfl,hv5,hr5⟩,b5⟩
  obtain ⟨w6,hw6⟩:∃w6,w5.alloc (.cells #[.int .i64 k,S n5,.int .i64 p,.slice A5 ts5.length c5] 51)=w6:=⟨_,rfl⟩
  have b6:=zG hw6
  have q6:=zQ hw6
  have s5:=b5.size
  have s6:=b6.size
  have b26:Below w2.heap.size w2 w6:=(HB.out.trans (b5.mono hs)).trans (b6.mono (by omega))
  obtain ⟨s1,s2,s3,s4,g1,g2,g3,g4,⟨p0,p1,p2,p3⟩,⟨f0,f1,f2,f3⟩,hq,HZ⟩:=sub_ret (w:=w) (r:=res) (z == 0) (UP.out _ b26) (fun h=>hr5 (by simpa using h)) (show w.heap.size≤w1.heap.size by omega) ((b26.block _ l2).trans Q2.out) (hv5.keep (fun b _ hlt=>b6.block b hlt) b6.size (fun b _ hb=>by have hb:wc.heap.size≤b:=hb;exact ⟨by omega,by omega⟩))
  have HQ:=zH hq
  have H6:=zH hw6
  have Q6:=zH q6
  clear hq hv5 hr5 b5 b6 b26 CMW x0 x1 x2 x3 y0 y1 q6 hw6
  go_upto_region 4 with fail
  rw [H6.out]
  clear H6
  obtain ⟨x0,x1,x2,x3⟩:=cells4t Q6.out
  go_wp2_with fail
  refine bodyPost_ret (results_term2 rfl _ _ _ _ _ _ _ rfl HQ.out) rfl ?_
  exact HZ.out
end Go.Proofs.YtadjpadieljjlaaGreat
namespace Lfc
theorem kindOf_at {ks:List Int} {k:Nat} (h:k<ks.length):kindOf ks (k:Int)=1↔ks.getD k 0=1:=by
 unfold kindOf
 rw [Int.toNat_natCast]
 split
 ·exact Iff.rfl
 rename_i h2
 exact ⟨(fun e=>by cases e),fun e=>absurd ⟨by omega,.inl e⟩ h2⟩
theorem flat_at:∀ {fs:List Fact} {f:Fact},f∈fs→f.l∈flat fs∧f.r∈flat fs
 | [],f,h=>by cases h
 | a :: r,f,h=>by
  rw [flat]
  rcases List.mem_cons.1 h with rfl | h
  ·exact ⟨by simp,by simp⟩
  have:=flat_at h
  exact ⟨by simp [this.1],by simp [this.2]⟩
theorem inst_law {ks:List Int} {vs:List Raw} {fs gs:List Fact} {ts us xs ys:List Raw} {o p:Ord} {a:Int} (V:Vals ks vs) (hf:∀f∈fs,f.l.size≤40∧f.r.size≤40) (ht:∀t∈ts,t.size≤40) (hu:∀t∈us,t.size≤40)
  (hgl:gs.length=fs.length) (hg:∀ (i:Nat) (h:i<gs.length) (h':i<fs.length),gs[i].rel=fs[i].rel∧sbR vs fs[i].l gs[i].l 0∧sbR vs fs[i].r gs[i].r 0)
  (hxl:xs.length=ts.length) (hx:∀ (i:Nat) (h:i<xs.length) (h':i<ts.length),sbR vs ts[i] xs[i] 0) (hyl:ys.length=us.length) (hy:∀ (i:Nat) (h:i<ys.length) (h':i<us.length),sbR vs us[i] ys[i] 0)
  (h:hldF ks fs o p ts us a):hldF ks gs o p xs ys a∧(∀f∈gs,f.l.size≤120∧f.r.size≤120)∧∀t∈xs++ys,t.size≤120:=by
 have hall:=(chkF_all.1 h.1).1
 have hfo:∀f∈fs,f.l.isO=true∧f.r.isO=true:=fun f hf=>⟨(hall _ (List.mem_append_left _ (List.mem_append_left _ (flat_at hf).1))).2,(hall _ (List.mem_append_left _ (List.mem_append_left _ (flat_at hf).2))).2⟩
 have hto:∀t∈ts,t.isO=true:=fun t ht=>(hall _ (List.mem_append_left _ (List.mem_append_right _ ht))).2
 have huo:∀t∈us,t.isO=true:=fun t ht=>(hall _ (List.mem_append_right _ ht)).2
 have hgi:∀ (i:Nat) (h:i<gs.length),(gs[i].l.twf=0∧gs[i].l.isO=true∧gs[i].l.size≤120)∧(gs[i].r.twf=0∧gs[i].r.isO=true∧gs[i].r.size≤120):=fun i hi=>by
  have hi':i<fs.length:=by omega
  obtain ⟨_,h1,h2⟩:=hg i hi hi'
  have hm:=List.getElem_mem hi'
  have z1:=sb_size V _ _ _ h1
  have z2:=sb_size V _ _ _ h2
  have:=hf _ hm
  have k1:=sb_ok V (hfo _ hm).1 this.1 h1
  have k2:=sb_ok V (hfo _ hm).2 this.2 h2
  exact ⟨⟨k1.1,k1.2,by omega⟩,⟨k2.1,k2.2,by omega⟩⟩
 have hxi:∀ (i:Nat) (h:i<xs.length),xs[i].twf=0∧xs[i].isO=true∧xs[i].size≤120:=fun i hi=>by
  have hi':i<ts.length:=by omega
  have hm:=List.getElem_mem hi'
  have h1:=hx i hi hi'
  have z1:=sb_size V _ _ _ h1
  have:=ht _ hm
  have k1:=sb_ok V (hto _ hm) this h1
  exact ⟨k1.1,k1.2,by omega⟩
 have hyi:∀ (i:Nat) (h:i<ys.length),ys[i].twf=0∧ys[i].isO=true∧ys[i].size≤120:=fun i hi=>by
  have hi':i<us.length:=by omega
  have hm:=List.getElem_mem hi'
  have h1:=hy i hi hi'
  have z1:=sb_size V _ _ _ h1
  have:=hu _ hm
  have k1:=sb_ok V (huo _ hm) this h1
  exact ⟨k1.1,k1.2,by omega⟩
 have hgm:∀f∈gs,(f.l.twf=0∧f.l.isO=true∧f.l.size≤120)∧(f.r.twf=0∧f.r.isO=true∧f.r.size≤120):=fun f hf=>by
  obtain ⟨i,hi,rfl⟩:=List.getElem_of_mem hf
  exact hgi i hi
 have hxm:∀t∈xs,t.twf=0∧t.isO=true∧t.size≤120:=fun t ht=>by
  obtain ⟨i,hi,rfl⟩:=List.getElem_of_mem ht
  exact hxi i hi
 have hym:∀t∈ys,t.twf=0∧t.isO=true∧t.size≤120:=fun t ht=>by
  obtain ⟨i,hi,rfl⟩:=List.getElem_of_mem ht
  exact hyi i hi
 have hok:∀t∈flat gs++xs++ys,t.twf=0∧t.isO=true:=fun t ht=>by
  rcases List.mem_append.1 ht with h1 | h1
  ·rcases List.mem_append.1 h1 with h2 | h2
   ·obtain ⟨f,hf,e | e⟩:=flat_mem h2
    ·rw [e];exact ⟨(hgm f hf).1.1,(hgm f hf).1.2.1⟩
    rw [e];exact ⟨(hgm f hf).2.1,(hgm f hf).2.2.1⟩
   exact ⟨(hxm t h2).1,(hxm t h2).2.1⟩
  exact ⟨(hym t h1).1,(hym t h1).2.1⟩
 have F:FactsR vs fs gs:=by
  refine ⟨hgl.symm,fun i=>?_,fun i hi ho=>?_⟩
  ·by_cases hi:i<fs.length
   ·have hi':i<gs.length:=by omega
    rw [List.getD_eq_getElem?_getD,List.getD_eq_getElem?_getD,List.getElem?_eq_getElem hi,List.getElem?_eq_getElem hi']
    exact (hg i hi' hi).1.symm
   rw [List.getD_eq_getElem?_getD,List.getD_eq_getElem?_getD,List.getElem?_eq_none (by omega),List.getElem?_eq_none (by omega)]
  have h1:i / 2<fs.length:=by omega
  have h2:i / 2<gs.length:=by omega
  unfold sd
  rw [List.getD_eq_getElem?_getD,List.getD_eq_getElem?_getD,List.getElem?_eq_getElem h1,List.getElem?_eq_getElem h2,Option.getD_some,Option.getD_some]
  split
  ·exact ⟨(hg _ h2 h1).2.1,(hgi _ h2).1.2.1⟩
  exact ⟨(hg _ h2 h1).2.2,(hgi _ h2).2.2.1⟩
 have hT:ListR vs ts xs:=⟨hxl.symm,fun i hi _=>by
  have hi':i<xs.length:=by omega
  rw [List.getD_eq_getElem?_getD,List.getD_eq_getElem?_getD,List.getElem?_eq_getElem hi,List.getElem?_eq_getElem hi',Option.getD_some,Option.getD_some]
  exact ⟨hx i hi' hi,(hxi i hi').2.1⟩⟩
 have hU:ListR vs us ys:=⟨hyl.symm,fun i hi _=>by
  have hi':i<ys.length:=by omega
  rw [List.getD_eq_getElem?_getD,List.getD_eq_getElem?_getD,List.getElem?_eq_getElem hi,List.getElem?_eq_getElem hi',Option.getD_some,Option.getD_some]
  exact ⟨hy i hi' hi,(hyi i hi').2.1⟩⟩
 refine ⟨hldF_sb V F hT hU hok h,fun f hf=>⟨(hgm f hf).1.2.2,(hgm f hf).2.2.2⟩,fun t ht=>?_⟩
 rcases List.mem_append.1 ht with h1 | h1
 ·exact (hxm t h1).2.2
 exact (hym t h1).2.2
end Lfc
namespace Go.Proofs.YtadjpadieljjlaaGreat
open Go.RowKit Go.Maps
theorem FI.done {wv W:World} {vs:List Lfc.Raw} {fs gs:List Lfc.Fact} {k c:Nat} {F:Option Addr} (h:FI wv vs fs k gs F c W):FactsP (fun _=>True) W F gs:=by
 obtain ⟨xF,r1,r2⟩:=h.row
 exact factsP_own h.len r1 (fun _ _=>trivial) (r2.keep (fun _ _ _=>rfl) (zN _) (fun _ _ _=>trivial))
theorem LI.done {wf W:World} {vs ts us xs ys:List Lfc.Raw} {k c d:Nat} {A B:Option Addr} (h:LI wf vs ts us k xs ys A c B d W):(TreesAt W A xs∧(A=none→k=0∧c=0))∧(TreesAt W B ys∧(B=none→k=0∧d=0)):=by
 obtain ⟨xA,xB,r1,r2,r3,r4⟩:=h.rows
 have h1:=treesP_own (q:=fun _=>True) h.lx r1 (fun _ _=>trivial) (r3.keep (fun _ _ _=>rfl) (zN _) (fun _ _ _=>trivial))
 have h2:=treesP_own (q:=fun _=>True) h.ly r2 (fun _ _=>trivial) (r4.keep (fun _ _ _=>rfl) (zN _) (fun _ _ _=>trivial))
 exact ⟨⟨h1.1.toAt',h1.2⟩,⟨h2.1.toAt',h2.2⟩⟩
theorem QuP.toQ {q:Nat→Prop} {w W:World} {fs:List Lfc.Fact} {F:Option Addr} {o p:Lfc.Ord} {vo vp:Value} {ts us:List Lfc.Raw} {L R:Option Addr} {cl cr:Nat} {ks:List Int} {A0:Option Addr} (h:QuP q w fs F o p vo vp ts us L R cl cr ks A0) (hb:Below w.heap.size w W):QuO W fs F o p vo vp ts us L R cl cr ks A0:=by
 have hh:=h.keep (q':=fun _=>True) (fun b _ hlt=>hb.block b hlt) hb.size (fun _ _ _=>trivial)
 have hn1:=h.n
 have hn2:=h.eq
 have hl:=h.fl
 have hk:=h.kl
 refine ⟨by omega,h.rl,fun f hf=>?_,hh.ff,by have:=h.os;omega,by have:=h.ps;omega,hh.vo.toV,hh.vp.toV,by omega,by omega,fun t ht=>?_,h.l,h.r,hh.tt.toAt',hh.uu.toAt',by omega,hh.kk⟩
 ·have:=h.gf f hf
  have h2:=this.2.2.1
  omega
 rcases List.mem_append.1 ht with h1 | h1
 ·have:=h.zt t h1;omega
 have:=(h.zu t h1).1;omega
theorem QuO.inst {W:World} {fs gs:List Lfc.Fact} {F G:Option Addr} {o p:Lfc.Ord} {vo vp:Value} {ts us xs ys:List Lfc.Raw} {L R A B:Option Addr} {cl cr c d:Nat} {ks:List Int} {A0:Option Addr} (h:QuO W fs F o p vo vp ts us L R cl cr ks A0)
  (hgl:gs.length=fs.length) (hg:∀ (i:Nat) (h:i<gs.length) (h':i<fs.length),gs[i].rel=fs[i].rel) (hG:FactsP (fun _=>True) W G gs) (hxl:xs.length=ts.length) (hyl:ys.length=us.length)
  (hA:TreesAt W A xs∧(A=none→xs.length=0∧c=0)) (hB:TreesAt W B ys∧(B=none→ys.length=0∧d=0)) (hz1:∀f∈gs,f.l.size≤120∧f.r.size≤120) (hz2:∀t∈xs++ys,t.size≤120):QuO W gs G o p vo vp xs ys A B c d ks A0:=by
 have h1:=h.n
 have h2:=h.m
 have h3:=h.fl
 refine ⟨by omega,fun f hf=>?_,fun f hf=>by have:=hz1 f hf;omega,hG,h.os,h.ps,h.vo,h.vp,by omega,by omega,fun t ht=>by have:=hz2 t ht;omega,hA.2,hB.2,hA.1,hB.1,h.kl,h.ks⟩
 obtain ⟨i,hi,rfl⟩:=List.getElem_of_mem hf
 rw [hg i hi (by omega)]
 exact h.rl _ (List.getElem_mem _)
def VBox (wr:World) (T vB:Nat) (ks:List Int) (k:Nat) (W:World):Prop :=
 ∃ (kk p:Int) (nm:List UInt8) (xs:List Lfc.Raw) (A:Option Addr) (c:Nat),W.heap[vB]?=some (.cells #[.int .i64 kk,S nm,.int .i64 p,.slice A (List.length xs) c] 51 (0,0))∧TreeVP (fun b=>wr.heap.size≤b∧b≠vB) W (.node kk nm p xs) (.agg #[.int .i64 kk,S nm,.int .i64 p,.slice A (List.length xs) c])∧Oth T wr W∧TapeI T W ∧
  ((Lfc.kindOf ks (k:Int)≠1→Lfc.Raw.node kk nm p xs=Lfc.vv k)∧(Lfc.kindOf ks (k:Int)=1→(Lfc.Raw.node kk nm p xs).cl=true∧(Lfc.Raw.node kk nm p xs).size≤3))
end Go.Proofs.YtadjpadieljjlaaGreat
namespace Go.Proofs.YtadjpadieljjlaaGreat
open Go.RowKit Go.Maps
attribute [local go_sem ↓] Go.wp_at_zero Go.wp_at_succ
def zdName (r:Nat):List UInt8:=if r=0 then [122] else [100]
theorem zd_cell (w:World) (r:Nat) (hr:r<2):(w.alloc (.cells #[.string ⟨#[122]⟩,.string ⟨#[100]⟩] 9)).cell? ⟨w.heap.size,r,none⟩=some (S (zdName r)):=by
 have q:=zW w (.cells #[.string ⟨#[122]⟩,.string ⟨#[100]⟩] 9)
 match r,hr with
 | 0,_=>exact zC q 0
 | 1,_=>exact zC q 1
theorem zd_cl (r:Nat):(Lfc.Raw.node 4 (zdName r) 0 []).cl=true:=by
 unfold zdName
 split <;> simp [Lfc.Raw.cl,Lfc.Raw.cls] <;> decide
theorem zd_len (r:Nat):(zdName r).length≤1000000:=by unfold zdName;split <;> simp
theorem one_term {q:Nat→Prop} {W:World} {t:Lfc.Raw} {v0 v1 v2 v3:Value} (hq:∀b,W.heap.size≤b→q b) (ht:TreeP q W t v0 v1 v2 v3) :
  TreesAtP q (W.alloc (.cells #[v0,v1,v2,v3] 51)) (some ⟨W.heap.size,0,none⟩) [t]:=by
 have hb:Below W.heap.size W (W.alloc (.cells #[v0,v1,v2,v3] 51)):=(zB _ _).alloc (zN _) _
 have ht':=TreeP.keep (q':=q) (fun b _ hlt=>hb.block b hlt) hb.size (fun _ _ h=>h) _ _ _ _ _ ht
 have hrow:RowP q (W.alloc (.cells #[v0,v1,v2,v3] 51)) [t] [v0,v1,v2,v3]:=by
  rw [RowP]
  exact ⟨v0,v1,v2,v3,[],rfl,ht',by rw [RowP]⟩
 have hc:CellsAt (W.alloc (.cells #[v0,v1,v2,v3] 51)) W.heap.size 0 [v0,v1,v2,v3]:=cellsAt_made W [v0,v1,v2,v3] _
 exact fun _=>⟨W.heap.size,0,rfl,by simp,hq _ (zN _),hrow.lie hc⟩
def ClAns (w:World) (T n:Nat) (e:Ending) (w':World):Prop :=
 (∃t v,e=.returned v∧TreeVP (fun b=>w.heap.size≤b) w' t v∧t.cl=true∧t.size≤n)∧TapeI T w'∧Oth T w w'
theorem oth_put2 {Mb g:Nat} {wr wa s4:World} (h:Oth Mb wr wa) (ho:Oth g wa s4) (hg:wr.heap.size≤g):Oth Mb wr s4 :=
 ⟨ho.os.trans h.os,ho.tape.trans h.tape,ho.output.trans h.output,Nat.le_trans h.size ho.size,fun b hb hn=>(ho.block b (Nat.lt_of_lt_of_le hb h.size) (fun e=>by have:=zO e;omega)).trans (h.block b hb hn)⟩
theorem cl_fin {w wx s4:World} {T n:Nat} {t:Lfc.Raw} {v:Value} (hT:T<w.heap.size) (ox:Oth T w wx) (tx:TapeI T wx) (ho:Oth w.heap.size wx s4) (hv:TreeVP (fun b=>w.heap.size<b) wx t v) (hc:t.cl=true) (hn:t.size≤n):ClAns w T n (.returned v) s4 :=
 ⟨⟨t,v,rfl,hv.keep (fun b hb hlt=>ho.block b hlt (fun e=>by have:=zO e;have hb:w.heap.size<b:=hb;omega)) ho.size (fun b _ hb=>Nat.le_of_lt hb),hc,hn⟩,tx.oth hT ho,oth_put2 ox ho (zN _)⟩
theorem mClosed_any:∀ (d:Nat),d≤2→∀ (T:Nat) (w:World),TapeI T w →
  Calls Tryz.prog 24 #[.pointer (some ⟨T,0,none⟩),.int .i64 (d:Int)] w (ClAns w T (d+1)):=by
 intro d
 induction d with
 | zero =>
  intro _ T w hT
  have hTl:=hT.lt
  obtain ⟨wa,hwa⟩:∃wa,w.alloc (.cells #[.int .i64 0,S [],.int .i64 0,.slice none 0 0] 51)=wa:=⟨_,rfl⟩
  have ba:=zG hwa
  have qa:=zQ hwa
  have la:=zL qa
  have QA:=zH qa
  have OA:Hid (Oth T w wa):=zH (Oth.of_below ba)
  have TA:=zH (hT.below ba)
  have HWA:=zH hwa
  clear hT ba qa hwa
  go_enter Tryz.func24,Tryz.ntmps24
  go_upto_region 1 with fail
  rw [HWA.out]
  clear HWA
  go_wp2_with fail
  have bb:Below wa.heap.size wa (wa.alloc (.cells #[.string ⟨#[122]⟩,.string ⟨#[100]⟩] 9)):=(zB _ _).alloc (zN _) _
  refine (tapeI_next T 2 _ (by omega) (by omega) (TA.out.below bb)).mono ?_
  rintro e w5 ⟨⟨r2,hr2,rfl⟩,T5,o5⟩
  have yr:w5.cell? ⟨wa.heap.size,r2,none⟩=some (S (zdName r2)):=(o5.cell (p:=⟨wa.heap.size,r2,none⟩) (by simp) (by show wa.heap.size≠T;omega)).trans (zd_cell wa r2 hr2)
  have hr20:(0:Int)≤(r2:Int):=Int.natCast_nonneg _
  have hr21:(r2:Int)<2:=by omega
  have q5:=o5.heap ((zA wa (.cells #[.string ⟨#[122]⟩,.string ⟨#[100]⟩] 9) _ (zL QA.out)).trans QA.out) (by omega)
  obtain ⟨s1,s2,s3,s4,g1,g2,g3,g4,⟨p0,p1,p2,p3⟩,⟨f0,f1,f2,f3⟩,hq,hot⟩:=tput4 q5 (.int .i64 4) (S (zdName r2)) (.int .i64 0) (.slice none 0 0)
  have HQ:=zH hq
  have HZ:=zH (cl_fin (n:=0+1) hTl ((OA.out.trans (Oth.of_below bb)).trans o5) T5 hot (TreeVP.mk (k:=4) (p:=0) (ts:=[]) (A:=none) (c:=0) (zd_len r2) (zN _) (fun h=>absurd rfl h)) (zd_cl r2) (by rw [Lfc.Raw.size,Lfc.Raw.sizes];omega))
  clear hq hot q5 T5 o5 bb
  go_wp2_with fail
  refine bodyPost_ret (results_term rfl _ _ _ _ _ _ _ rfl HQ.out) rfl ?_
  exact HZ.out
 | succ d ih0 =>
  intro hd T w hT
  have IH:=zH (ih0 (by omega))
  clear ih0
  have hTl:=hT.lt
  obtain ⟨wa,hwa⟩:∃wa,w.alloc (.cells #[.int .i64 0,S [],.int .i64 0,.slice none 0 0] 51)=wa:=⟨_,rfl⟩
  have ba:=zG hwa
  have qa:=zQ hwa
  have la:=zL qa
  have QA:=zH qa
  have OA:Hid (Oth T w wa):=zH (Oth.of_below ba)
  have TA:=zH (hT.below ba)
  have HWA:=zH hwa
  clear hT ba qa hwa
  have hwr:IntKind.i64.wrap (((d+1:Nat):Int)-1)=(d:Int):=by rw [IntWalk.i64_in _ (by omega)];omega
  have hg0:decide (((d+1:Nat):Int)>0)=true:=by rw [decide_eq_true_eq];omega
  obtain ⟨D,hD⟩:∃D,d+1=D:=⟨_,rfl⟩
  have HD:=zH hD
  rw [hD] at hwr hg0 ⊢
  have hgN:0<D:=by omega
  clear hD
  go_enter Tryz.func24,Tryz.ntmps24
  go_upto_region 1 with fail
  rw [HWA.out]
  clear HWA
  go_wp2_with fail
  refine (tapeI_next T 2 wa (by omega) (by omega) TA.out).mono ?_
  rintro e w1 ⟨⟨r,hr,rfl⟩,T1',o1'⟩
  have T1:=zH T1'
  have O1:=zH (OA.out.trans o1')
  have q1:=o1'.heap QA.out (by omega)
  have l1:=zL q1
  have Q1:=zH q1
  have hs1:=o1'.size
  clear T1' o1' q1
  by_cases hr0:r=0
  ·subst hr0
   go_wp2_with fail
   refine (IH.out T w1 T1.out).mono ?_
   rintro e w2 ⟨⟨t9,v9,rfl,hv9,hc9,hz9⟩,T2,o2⟩
   obtain ⟨k9,n9,p9,xs9⟩:=t9
   obtain ⟨A9,c9,rfl,hp9⟩:=hv9.openT
   have q2:=o2.heap Q1.out (by omega)
   have hs2:=o2.size
   have bb:Below w2.heap.size w2 (w2.alloc (.cells #[.int .i64 k9,S n9,.int .i64 p9,.slice A9 xs9.length c9] 51)):=(zB _ _).alloc (zN _) _
   have hrow:=one_term (q:=fun b=>w.heap.size<b) (W:=w2) (fun b hb=>by omega) (TreeP.keep (q':=fun b=>w.heap.size<b) (fun _ _ _=>rfl) (zN _) (fun b _ hb=>by have hb:w1.heap.size≤b:=hb;show w.heap.size<b;omega) _ _ _ _ _ hp9)
   obtain ⟨s1,s2,s3,s4,g1,g2,g3,g4,⟨p0,p1,p2,p3⟩,⟨f0,f1,f2,f3⟩,hq,hot⟩:=tput4 ((zA w2 (.cells #[.int .i64 k9,S n9,.int .i64 p9,.slice A9 xs9.length c9] 51) _ (zL q2)).trans q2) (.int .i64 4) (.string ⟨#[115]⟩) (.int .i64 0) (.slice (some ⟨w2.heap.size,0,none⟩) 1 1)
   have HQ:=zH hq
   have HZ:=zH (cl_fin (n:=D+1) hTl ((O1.out.trans o2).trans (Oth.of_below bb)) (T2.below bb) hot (TreeVP.mk (k:=4) (n:=[115]) (p:=0) (ts:=[.node k9 n9 p9 xs9]) (c:=1) (by decide) (zN _) hrow) (by rw [Lfc.Raw.cl,Lfc.Raw.cls,Lfc.Raw.cls,hc9];decide) (by have:=HD.out;simp only [Lfc.Raw.size,Lfc.Raw.sizes] at hz9 ⊢;omega))
   clear hq hot q2 hrow hv9 hc9 hz9 hp9 T2 o2 bb
   go_wp2_with fail
   refine bodyPost_ret (results_term rfl _ _ _ _ _ _ _ rfl HQ.out) rfl ?_
   exact HZ.out
  have hr1:((r:Int) == 0)=false:=by simp;omega
  clear hr0
  go_wp2_with fail
  have bb:Below w1.heap.size w1 (w1.alloc (.cells #[.string ⟨#[122]⟩,.string ⟨#[100]⟩] 9)):=(zB _ _).alloc (zN _) _
  refine (tapeI_next T 2 _ (by omega) (by omega) (T1.out.below bb)).mono ?_
  rintro e w5 ⟨⟨r2,hr2,rfl⟩,T5,o5⟩
  have yr:w5.cell? ⟨w1.heap.size,r2,none⟩=some (S (zdName r2)):=(o5.cell (p:=⟨w1.heap.size,r2,none⟩) (by simp) (by show w1.heap.size≠T;omega)).trans (zd_cell w1 r2 hr2)
  have hr20:(0:Int)≤(r2:Int):=Int.natCast_nonneg _
  have hr21:(r2:Int)<2:=by omega
  have q5:=o5.heap ((zA w1 (.cells #[.string ⟨#[122]⟩,.string ⟨#[100]⟩] 9) _ (zL Q1.out)).trans Q1.out) (by omega)
  obtain ⟨s1,s2,s3,s4,g1,g2,g3,g4,⟨p0,p1,p2,p3⟩,⟨f0,f1,f2,f3⟩,hq,hot⟩:=tput4 q5 (.int .i64 4) (S (zdName r2)) (.int .i64 0) (.slice none 0 0)
  have HQ:=zH hq
  have HZ:=zH (cl_fin (n:=D+1) hTl ((O1.out.trans (Oth.of_below bb)).trans o5) T5 hot (TreeVP.mk (k:=4) (p:=0) (ts:=[]) (A:=none) (c:=0) (zd_len r2) (zN _) (fun h=>absurd rfl h)) (zd_cl r2) (by rw [Lfc.Raw.size,Lfc.Raw.sizes];omega))
  clear hq hot q5 T5 o5 bb
  go_wp2_with fail
  refine bodyPost_ret (results_term rfl _ _ _ _ _ _ _ rfl HQ.out) rfl ?_
  exact HZ.out
end Go.Proofs.YtadjpadieljjlaaGreat
namespace Go.Proofs.YtadjpadieljjlaaGreat
open Go.RowKit Go.Maps
theorem tape_new2 {w:World} {A:Option Addr} {c:Nat} {zs:List Int} (h:IntsAt w (.slice A zs.length c) zs):TapeI w.heap.size (w.alloc (.cells #[.slice A zs.length c,.int .i64 0] 33)):=by
 obtain ⟨A',c',e,h1,h2⟩:=h
 cases e
 refine ⟨⟨A,zs.length,c,0,zW _ _,Nat.zero_le _,h1,fun hp=>?_⟩⟩
 obtain ⟨b,o,hA,hlt,hc⟩:=h2 hp
 exact ⟨b,o,hA,hlt,fun k hk=>⟨_,(((zB w.heap.size w).alloc (zN _) _).cell (p:=⟨b,o+k,none⟩) hlt).trans (hc k hk)⟩⟩
end Go.Proofs.YtadjpadieljjlaaGreat
namespace Go.Proofs.YtadjpadieljjlaaGreat
open Go.RowKit Go.Maps
theorem oHolds1_any (i j:Nat) (ts us:List Lfc.Raw) (L R A0:Option Addr) (cl cr c0:Nat) (ks:List Int) (w:World) (hks:ks.length≤1000000) (hA0:IntsO w A0 ks)
  (hn:ts.length≤1000) (hm:us.length≤1000) (hi:i<ts.length) (hj:j<us.length) (hst:∀t∈ts++us,t.size≤1000000) (hL:L=none→ts.length=0∧cl=0) (hR:R=none→us.length=0∧cr=0) (hts:TreesAt w L ts) (hus:TreesAt w R us) :
  Calls Tryz.prog 16 #[.slice none 0 0,.int .i64 1,.agg #[.int .i64 1,.int .i64 (i:Int),.slice none 0 0],.slice L ts.length cl,.agg #[.int .i64 1,.int .i64 (j:Int),.slice none 0 0],.slice R us.length cr,.slice A0 ks.length c0] w fun e w'=>e=.returned (.tuple #[.bool (Lfc.prv0 ks (ts++us) ts[i] us[j]).isSome,.int .i64 (Lfc.chkE (ts++us))])∧Below w.heap.size w w':=by
 have hsi:=hst ts[i] (List.mem_append_left _ (List.getElem_mem _))
 have hsj:=hst us[j] (List.mem_append_right _ (List.getElem_mem _))
 obtain ⟨w1,hw1⟩:∃w1,w.alloc (.cells #[.int .i64 1,.int .i64 (i:Int),.slice none 0 0] 26)=w1:=⟨_,rfl⟩
 obtain ⟨w2,hw2⟩:∃w2,w1.alloc (.cells #[.int .i64 1,.int .i64 (j:Int),.slice none 0 0] 26)=w2:=⟨_,rfl⟩
 have b1:=zG hw1
 have b2:=zG hw2
 have q1:=zQ hw1
 have q2:=zQ hw2
 have e1:=zL q1
 have e2:=zL q2
 have b02:Below w.heap.size w w2:=b1.trans (b2.mono (by omega))
 have Q1:=zH ((b2.block _ e1).trans q1)
 have Q2:=zH q2
 have B02:=zH b02
 have s02:w.heap.size≤w2.heap.size:=by omega
 obtain ⟨y0,y1,y2⟩:=cells3o Q1.out
 obtain ⟨z0,z1,z2⟩:=cells3o Q2.out
 have CK:=zH (oCheck0_any (.node 1 (i:Int) []) (.node 1 (j:Int) []) _ _ ts us L R cl cr w2 (by rw [Lfc.Ord.size,Lfc.Ord.sizes];omega) (by rw [Lfc.Ord.size,Lfc.Ord.sizes];omega) (ord_arg w2 (i:Int)) (ord_arg w2 (j:Int)) (Lfc.vld_arg hi) (Lfc.vld_arg hj) (Lfc.shp_arg _ _) hn hm hst hL hR (hts.below b02) (hus.below b02))
 have CP:=zH (fun W (hW:Below w2.heap.size w2 W)=>oProve1_any i j ts us L R A0 cl cr c0 ks W hks (hA0.below (b02.trans (hW.mono s02))) hn hm hi hj hst hL hR (hts.below (b02.trans (hW.mono s02))) (hus.below (b02.trans (hW.mono s02))))
 have HP0:Hid (Lfc.chkE (ts++us)≠0→(Lfc.prv0 ks (ts++us) ts[i] us[j]).isSome=false):=zH (fun h=>by rw [Lfc.prv0,if_neg h];rfl)
 obtain ⟨res,hres⟩:∃res,Lfc.prv0 ks (ts++us) ts[i] us[j]=res:=⟨_,rfl⟩
 rw [hres] at CP HP0 ⊢
 obtain ⟨z,hz⟩:∃z,Lfc.chkE (ts++us)=z:=⟨_,rfl⟩
 rw [hz] at CK HP0 ⊢
 obtain ⟨n,hnn⟩:∃n,ts.length=n:=⟨_,rfl⟩
 obtain ⟨m,hmm⟩:∃m,us.length=m:=⟨_,rfl⟩
 rw [hnn] at CK CP ⊢
 rw [hmm] at CK CP ⊢
 clear hz hres hsi hsj hst hL hR hts hus hA0 b1 b2 q1 q2 b02 hnn hmm hi hj hn hm
 by_cases hz0:z=0
 ·subst hz0
  go_enter Tryz.func16,Tryz.ntmps16
  go_wp2_with fail
  refine CK.out.mono ?_
  rintro e w4 ⟨rfl,b4⟩
  clear hw1 hw2 CK y0 y1 y2 z0 z1 z2
  obtain ⟨y0,y1,y2⟩:=cells3o ((b4.block _ (by omega)).trans Q1.out)
  obtain ⟨z0,z1,z2⟩:=cells3o ((b4.block _ (by omega)).trans Q2.out)
  have CPW:=zH (CP.out _ b4)
  have B4:=zH b4
  clear b4 CP
  go_wp2_with fail
  refine CPW.out.mono ?_
  rintro e w5 ⟨⟨rfl,rfl⟩ | ⟨l,Al,cll,B',d',rfl,rfl,hcl,hl⟩,b5⟩
  ·have HZ:=zH (B02.out.trans ((B4.out.trans (b5.mono B4.out.size)).mono s02))
   obtain ⟨w6,hw6⟩:∃w6,w5.alloc (.cells #[.int .i64 0,.slice none 0 0,.slice none 0 0,.slice none 0 0] 39)=w6:=⟨_,rfl⟩
   have HW6:=zH hw6
   have HZ6:Hid (Below w.heap.size w w6):=zH (by rw [←hw6];exact HZ.out.alloc HZ.out.size _)
   clear hw6 b5
   go_upto_region 5 with fail
   rw [HW6.out]
   go_wp2_with fail
   refine bodyPost_ret (results_tmp2 rfl _ _ _) rfl ?_
   exact ⟨rfl,HZ6.out⟩
  have HZ:=zH (B02.out.trans ((B4.out.trans (b5.mono B4.out.size)).mono s02))
  obtain ⟨w6,hw6⟩:∃w6,w5.alloc (.cells #[.int .i64 0,.slice none 0 0,.slice Al l.length cll,.slice B' 0 d'] 39)=w6:=⟨_,rfl⟩
  have HW6:=zH hw6
  have HZ6:Hid (Below w.heap.size w w6):=zH (by rw [←hw6];exact HZ.out.alloc HZ.out.size _)
  clear hw6 b5 hl
  go_upto_region 5 with fail
  rw [HW6.out]
  go_wp2_with fail
  refine bodyPost_ret (results_tmp2 rfl _ _ _) rfl ?_
  exact ⟨rfl,HZ6.out⟩
 have hz1:(z == 0)=false:=by simpa using hz0
 have hz2:(z != 0)=true:=by simpa using hz0
 have hz3:decide (z=0)=false:=by simpa using hz0
 have HRES:=zH (HP0.out hz0)
 clear hz0 HP0
 rw [HRES.out]
 go_enter Tryz.func16,Tryz.ntmps16
 go_wp2_with fail
 refine CK.out.mono ?_
 rintro e w4 ⟨rfl,b4⟩
 have HZ:=zH (B02.out.trans (b4.mono s02))
 clear b4 CK y0 y1 y2 z0 z1 z2
 go_wp2_with fail
 refine bodyPost_ret (results_tmp2 rfl _ _ _) rfl ?_
 exact ⟨rfl,HZ.out⟩
theorem oVerify1_any (q:List Int) (qq:Nat→Prop) (C Bk:Option Addr) (cC dk:Nat) (i j:Nat) (ts us:List Lfc.Raw) (L R A0:Option Addr) (cl cr c0:Nat) (ks:List Int) (w:World) (hks:ks.length≤1000000) (hA0:IntsO w A0 ks)
  (hn:ts.length≤1000) (hm:us.length≤1000) (hi:i<ts.length) (hj:j<us.length) (hst:∀t∈ts++us,t.size≤1000000) (hL:L=none→ts.length=0∧cl=0) (hR:R=none→us.length=0∧cr=0) (hts:TreesAt w L ts) (hus:TreesAt w R us) (hck:Lfc.chkE (ts++us)=0) (hql:q.length≤1000000) (hq:q.length≠0) (hl:LinksP qq w C [⟨1,us[j],q,0⟩]) (hfit:Lfc.Raw.fits ks ts[i] us[j] q=true) (hsm:Lfc.Raw.tsm us[j] us[j]=true) (huk:∀k n p ts,us[j]=.node k n p ts→k≠0) :
  Calls Tryz.prog 14 #[.slice none 0 0,.int .i64 1,.agg #[.int .i64 1,.int .i64 (i:Int),.slice none 0 0],.slice L ts.length cl,.agg #[.int .i64 1,.int .i64 (j:Int),.slice none 0 0],.slice R us.length cr,.slice A0 ks.length c0,.agg #[.int .i64 0,.slice none 0 0,.slice C 1 cC,.slice Bk 0 dk]] w fun e w'=>e=.returned (.bool true)∧Below w.heap.size w w':=by
 have hsi:=hst ts[i] (List.mem_append_left _ (List.getElem_mem _))
 have hsj:=hst us[j] (List.mem_append_right _ (List.getElem_mem _))
 obtain ⟨w1,hw1⟩:∃w1,w.alloc (.cells #[.int .i64 1,.int .i64 (i:Int),.slice none 0 0] 26)=w1:=⟨_,rfl⟩
 obtain ⟨w2,hw2⟩:∃w2,w1.alloc (.cells #[.int .i64 1,.int .i64 (j:Int),.slice none 0 0] 26)=w2:=⟨_,rfl⟩
 obtain ⟨w3,hw3⟩:∃w3,w2.alloc (.cells #[.int .i64 0,.slice none 0 0,.slice C 1 cC,.slice Bk 0 dk] 39)=w3:=⟨_,rfl⟩
 have b1:=zG hw1
 have b2:=zG hw2
 have q1:=zQ hw1
 have q2:=zQ hw2
 have b3:=zG hw3
 have q3:=zQ hw3
 have e1:=zL q1
 have e2:=zL q2
 have e3:=zL q3
 have b03:Below w.heap.size w w3:=(b1.trans (b2.mono (by omega))).trans (b3.mono (by omega))
 have Q1:=zH ((b3.block _ (by omega)).trans ((b2.block _ e1).trans q1))
 have Q2:=zH ((b3.block _ e2).trans q2)
 have Q3:=zH q3
 have B03:=zH b03
 have s03:w.heap.size≤w3.heap.size:=by omega
 obtain ⟨y0,y1,y2⟩:=cells3o Q1.out
 obtain ⟨z0,z1,z2⟩:=cells3o Q2.out
 have CK:=zH (oCheck0_any (.node 1 (i:Int) []) (.node 1 (j:Int) []) _ _ ts us L R cl cr w3 (by rw [Lfc.Ord.size,Lfc.Ord.sizes];omega) (by rw [Lfc.Ord.size,Lfc.Ord.sizes];omega) (ord_arg w3 (i:Int)) (ord_arg w3 (j:Int)) (Lfc.vld_arg hi) (Lfc.vld_arg hj) (Lfc.shp_arg _ _) hn hm hst hL hR (hts.below b03) (hus.below b03))
 rw [hck] at CK
 have CA:=zH (fun (W:World) (Bx:Nat) (hW:Below w3.heap.size w3 W) (hP:ProvO W Bx none A0 L R 0 0 ks c0 ts us cl cr)=>oArgVerify1_any q qq C Bk cC dk Bx none A0 L R 0 ks c0 ts us cl cr i j W hks hP hi hj hsi hsj (by omega) (by omega) hql hq (hl.below (b03.trans (hW.mono s03))) hfit hsm huk)
 have HKS:=zH hA0
 have HTS:=zH hts
 have HUS:=zH hus
 obtain ⟨n,hnn⟩:∃n,ts.length=n:=⟨_,rfl⟩
 obtain ⟨m,hmm⟩:∃m,us.length=m:=⟨_,rfl⟩
 have HNM:=zH (And.intro hnn hmm)
 rw [hnn] at CK ⊢
 rw [hmm] at CK ⊢
 clear hsi hsj hst hL hR hts hus hA0 b1 b2 b3 q1 q2 q3 b03 hnn hmm hi hj hn hm hck hq hl hfit hsm huk
 have hme : ∀ (k : Nat) (w : World), (method (k + 1) 123 (.agg #[.int .i64 (i : Int), .int .i64 (j : Int)]) "lfcheck/order.verify").run Tryz.prog w = .ok (159, .agg #[.int .i64 (i : Int), .int .i64 (j : Int)]) w := fun _ _ => by rfl
 go_enter Tryz.func14,Tryz.ntmps14
 go_wp2_with fail
 refine CK.out.mono ?_
 rintro e w4 ⟨rfl,b4⟩
 clear hw1 hw2 hw3 CK y0 y1 y2 z0 z1 z2
 obtain ⟨w6,hw6⟩:∃w6,w4.alloc (.cells #[.slice none 0 0,.slice A0 ks.length c0,.slice L n cl,.slice R m cr,.map none] 85)=w6:=⟨_,rfl⟩
 have b6:=zG hw6
 have q6:=zQ hw6
 have b36:Below w3.heap.size w3 w6:=b4.trans (b6.mono b4.size)
 have hP6:Hid (ProvO w6 w4.heap.size none A0 L R 0 0 ks c0 ts us cl cr):=zH (by
  have b06:=B03.out.trans (b36.mono s03)
  refine ⟨zL q6,zC q6 0,zC q6 1,?_,?_,HKS.out.below b06,HTS.out.below b06,HUS.out.below b06⟩
  ·rw [HNM.out.1];exact zC q6 2
  rw [HNM.out.2];exact zC q6 3)
 have B36:=zH b36
 have s6:=b36.size
 have SC:Hid (∀W,Below w6.heap.size w6 W→(W.cell? ⟨w.heap.size,0,none⟩=some (.int .i64 1)∧W.cell? ⟨w.heap.size,1,none⟩=some (.int .i64 (i:Int))∧W.cell? ⟨w.heap.size,2,none⟩=some (.slice none 0 0))∧(W.cell? ⟨w1.heap.size,0,none⟩=some (.int .i64 1)∧W.cell? ⟨w1.heap.size,1,none⟩=some (.int .i64 (j:Int))∧W.cell? ⟨w1.heap.size,2,none⟩=some (.slice none 0 0))∧(W.cell? ⟨w2.heap.size,0,none⟩=some (.int .i64 0)∧W.cell? ⟨w2.heap.size,1,none⟩=some (.slice none 0 0)∧W.cell? ⟨w2.heap.size,2,none⟩=some (.slice C 1 cC)∧W.cell? ⟨w2.heap.size,3,none⟩=some (.slice Bk 0 dk))):=zH (fun W hW=>by
  have hw:=b36.trans (hW.mono s6)
  exact ⟨cells3o ((hw.block _ (by omega)).trans Q1.out),cells3o ((hw.block _ (by omega)).trans Q2.out),cells4t ((hw.block _ e3).trans Q3.out)⟩)
 have CB:=zH (fun W=>oBothArg_any (i:Int) (j:Int) W)
 have CV:=zH (fun W (hW:Below w6.heap.size w6 W)=>CA.out W w4.heap.size (b36.trans (hW.mono s6)) (hP6.out.below hW))
 have G0:Below w6.heap.size w6 w6.drew:=(zB _ _).drew
 have aa:∀W W',Below w6.heap.size w6 W→Below W.heap.size W W'→Below w6.heap.size w6 W':=fun W W' h h'=>h.trans (h'.mono h.size)
 obtain ⟨v0,v1,v2⟩:=SC.out _ (zB _ _)
 have HW6:=zH hw6
 clear b4 b6 q6 b36 CA
 go_upto_region 4 with fail
 clear hw6 v0 v1 v2
 go_region_held3 (fun W=>(W.cell? ⟨w.heap.size,0,none⟩=some (.int .i64 1)∧W.cell? ⟨w.heap.size,1,none⟩=some (.int .i64 (i:Int))∧W.cell? ⟨w.heap.size,2,none⟩=some (.slice none 0 0))∧(W.cell? ⟨w1.heap.size,0,none⟩=some (.int .i64 1)∧W.cell? ⟨w1.heap.size,1,none⟩=some (.int .i64 (j:Int))∧W.cell? ⟨w1.heap.size,2,none⟩=some (.slice none 0 0))∧(W.cell? ⟨w2.heap.size,0,none⟩=some (.int .i64 0)∧W.cell? ⟨w2.heap.size,1,none⟩=some (.slice none 0 0)∧W.cell? ⟨w2.heap.size,2,none⟩=some (.slice C 1 cC)∧W.cell? ⟨w2.heap.size,3,none⟩=some (.slice Bk 0 dk)))
  (first | exact SC.out _ G0 | (refine SC.out _ ?_;assumption))
  (first
   | (go_at_call 36;((with_reducible refine (CB.out _).mono ?_));rintro e w7 ⟨rfl,b7'⟩;have b7:=aa _ _ (by assumption) b7')
   | (go_at_call 159;((with_reducible refine (CV.out _ ?_).mono ?_));assumption;rintro e w8 ⟨rfl,b8'⟩;have b8:=aa _ _ (by assumption) b8'))
 all_goals
  have HZ:=zH (B03.out.trans ((B36.out.trans (b8.mono s6)).mono s03))
  go_wp2_with fail
  go_ret
  exact ⟨rfl,HZ.out⟩
end Go.Proofs.YtadjpadieljjlaaGreat
namespace Go.Proofs.YtadjpadieljjlaaGreat
open Go.RowKit Go.Maps
attribute [local go_sem ↓] Go.wp_at_zero Go.wp_at_succ
theorem cells6d {W:World} {g:Nat} {v0 v1 v2 v3 v4 v5:Value} {t:TypeId} (h:W.heap[g]?=some (.cells #[v0,v1,v2,v3,v4,v5] t (0,0))):W.cell? ⟨g,0,none⟩=some v0∧W.cell? ⟨g,1,none⟩=some v1∧W.cell? ⟨g,2,none⟩=some v2∧W.cell? ⟨g,3,none⟩=some v3∧W.cell? ⟨g,4,none⟩=some v4∧W.cell? ⟨g,5,none⟩=some v5 :=
 ⟨zC h 0,zC h 1,zC h 2,zC h 3,zC h 4,zC h 5⟩
def ExpAns (w:World) (o:Lfc.Ord) (m:Lfc.Ord) (im k:Int) (e:Ending) (w':World):Prop :=
 (∃v',e=.returned (.tuple #[v',.int .i64 (o.expE im k)])∧OrdVP (fun b=>w.heap.size≤b) w' (if o.expE im k=0 then m else .node 0 0 []) v')∧Below w.heap.size w w'
theorem expE_small {o:Lfc.Ord} {im k:Int} (h:64<o.size∨o.form=false):o.expE im k=92:=by rw [Lfc.Ord.expE,if_pos h]
theorem expE_range {o:Lfc.Ord} {im k:Int} (h:¬ (64<o.size∨o.form=false)) (h2:im<0∨k<im∨o.rng 1 (k-im)=false):o.expE im k=5:=by rw [Lfc.Ord.expE,if_neg h,if_pos h2]
theorem expE_ok {o:Lfc.Ord} {im k:Int} (h:¬ (64<o.size∨o.form=false)) (h2:¬ (im<0∨k<im∨o.rng 1 (k-im)=false)):o.expE im k=0:=by rw [Lfc.Ord.expE,if_neg h,if_neg h2]
theorem exp_zero {q:Nat→Prop} {w:World}:OrdVP q w (.node 0 0 []) (.agg #[.int .i64 0,.int .i64 0,.slice none 0 0]) :=
 OrdVP.mk (ts:=[]) (Nat.zero_le _) (fun h=>absurd rfl h)
theorem exp_err {w w3 w5 s3:World} {R:Nat} {o m:Lfc.Ord} {im k E:Int} (he:o.expE im k=E) (hE:E≠0) (b3:Below w.heap.size w w3) (b5:Below w3.heap.size w3 w5) (ho:Oth R w5 s3) (hR:w.heap.size≤R) (hs:w.heap.size≤w3.heap.size):ExpAns w o m im k (.returned (.tuple #[.agg #[.int .i64 0,.int .i64 0,.slice none 0 0],.int .i64 E])) s3:=by
 refine ⟨⟨_,by rw [he],?_⟩,Oth.below (b3.trans (b5.mono hs)) ho hR (Nat.le_trans hs b5.size)⟩
 rw [if_neg (by rw [he];exact hE)]
 exact exp_zero
theorem oExplicit_any (o:Lfc.Ord) (vo:Value) (k:Nat) (im:Int) (nm:List UInt8) (kd p:Int) (n:List UInt8) (A:Option Addr) (l c:Nat) (w:World) (hsz:o.size≤1000000) (hmod:o.mod 1000=true) (hk:k≤100) (hi0:-10≤im) (hi1:im≤10) (hv:OrdV w o vo) (ht:TreeV w (Lfc.piCh k) (.agg #[.int .i64 kd,S n,.int .i64 p,.slice A l c])) :
  Calls Tryz.prog 31 #[.agg #[S nm,.int .i64 kd,S n,.int .i64 p,.slice A l c,.int .i64 im],vo] w (ExpAns w o (o.mv (im-1)) im k):=by
 obtain ⟨A0,c0,ko,ao,ts,hT,rfl⟩:∃A c kd ar ts,o=.node kd ar ts∧vo=.agg #[.int .i64 kd,.int .i64 ar,.slice A (List.length ts) c]:=by
  obtain ⟨kd,ar,ts⟩:=o
  obtain ⟨A,c,rfl,hc,hA⟩:=hv.open_
  exact ⟨A,c,kd,ar,ts,rfl,rfl⟩
 obtain ⟨lo,hlo⟩:∃lo,ts.length=lo:=⟨_,rfl⟩
 rw [hlo] at hv ⊢
 obtain ⟨w1,hw1⟩:∃w1,w.alloc (.cells #[S nm,.int .i64 kd,S n,.int .i64 p,.slice A l c,.int .i64 im] 75)=w1:=⟨_,rfl⟩
 obtain ⟨w2,hw2⟩:∃w2,w1.alloc (.cells #[.int .i64 ko,.int .i64 ao,.slice A0 lo c0] 26)=w2:=⟨_,rfl⟩
 obtain ⟨w3,hw3⟩:∃w3,w2.alloc (.cells #[.int .i64 0,.int .i64 0,.slice none 0 0] 26)=w3:=⟨_,rfl⟩
 have b1:=zG hw1
 have b2:=zG hw2
 have b3:=zG hw3
 have q1:=zQ hw1
 have q2:=zQ hw2
 have q3:=zQ hw3
 have l1:=zL q1
 have l2:=zL q2
 have l3:=zL q3
 have Q1:=zH ((b3.block _ (by omega)).trans ((b2.block _ l1).trans q1))
 have Q2:=zH ((b3.block _ l2).trans q2)
 have Q3:=zH q3
 have hb03:Below w.heap.size w w3:=(b1.trans (b2.mono (by omega))).trans (b3.mono (by omega))
 have B03:=zH hb03
 have HV:=zH (hv.below hb03)
 have HT:=zH (ht.below hb03)
 have hs3:w.heap.size≤w3.heap.size:=by omega
 have hw4:IntKind.i64.wrap ((k:Int)-im)=(k:Int)-im:=IntWalk.i64_in _ (by omega)
 have hw5:IntKind.i64.wrap (im-1)=im-1:=IntWalk.i64_in _ (by omega)
 obtain ⟨y0,y1,y2⟩:=cells3o Q2.out
 have HO:=zH hT
 have C1:=zH (oSmall_any o _ w3 hsz HV.out)
 have HSM:Hid ((64<o.size∨o.form=false)↔(decide (o.size≤64) && o.form)=false):=zH (by
  rw [Bool.and_eq_false_iff,decide_eq_false_iff_not]
  constructor
  ·rintro (h | h)
   ·exact .inl (by omega)
   exact .inr h
  rintro (h | h)
  ·exact .inl (by omega)
  exact .inr h)
 clear hT hlo hv ht q1 q2 q3 b1 b2 b3 hb03
 obtain ⟨f,hf⟩:∃f,(decide (o.size≤64) && o.form)=f:=⟨_,rfl⟩
 rw [hf] at C1 HSM
 clear hf
 cases f
 ·have HE:=zH (expE_small (im:=im) (k:=(k:Int)) (HSM.out.2 rfl))
  clear HSM
  go_enter Tryz.func31,Tryz.ntmps31
  go_wp2_with fail
  refine C1.out.mono ?_
  rintro e w4 ⟨rfl,hb4⟩
  clear y0 y1 y2
  obtain ⟨s1,s2,s3,g1,g2,g3,⟨p0,p1,p2⟩,⟨f0,f1,f2⟩,hq,hot⟩:=oput3 ((hb4.block _ l3).trans Q3.out) (.int .i64 0) (.int .i64 0) (.slice none 0 0)
  have HQ:=zH hq
  have HZ:=zH (exp_err (m:=o.mv (im-1)) HE.out (by decide) B03.out hb4 hot (by omega) hs3)
  clear hq hot
  go_wp2_with fail
  refine bodyPost_ret (results_ord2 rfl _ _ _ _ _ _ rfl HQ.out) rfl ?_
  exact HZ.out
 have HS:Hid (¬ (64<o.size∨o.form=false)):=zH (fun h=>by have:=HSM.out.1 h;cases this)
 clear HSM
 go_enter Tryz.func31,Tryz.ntmps31
 go_wp2_with fail
 refine C1.out.mono ?_
 rintro e w4 ⟨rfl,hb4⟩
 clear y0 y1 y2
 have hsW:=hb4.size
 obtain ⟨x0,x1,x2,x3,x4,x5⟩:=cells6d ((hb4.block _ (by omega)).trans Q1.out)
 have CP:=zH (oParams_any k (by omega) _ w4 (HT.out.below hb4))
 go_wp2_with fail
 refine CP.out.mono ?_
 rintro e wp ⟨rfl,hbp'⟩
 have hbp:=hb4.trans (hbp'.mono hb4.size)
 clear x0 x1 x2 x3 x4 x5 CP hbp'
 have hsp:=hbp.size
 obtain ⟨x0,x1,x2,x3,x4,x5⟩:=cells6d ((hbp.block _ (by omega)).trans Q1.out)
 obtain ⟨y0,y1,y2⟩:=cells3o ((hbp.block _ (by omega)).trans Q2.out)
 by_cases hi2:im<0
 ·have HE:=zH (expE_range (o:=o) (im:=im) (k:=(k:Int)) HS.out (.inl hi2))
  have hd1:decide (im<0)=true:=by rw [decide_eq_true_eq];exact hi2
  obtain ⟨s1,s2,s3,g1,g2,g3,⟨p0,p1,p2⟩,⟨f0,f1,f2⟩,hq,hot⟩:=oput3 ((hbp.block _ l3).trans Q3.out) (.int .i64 0) (.int .i64 0) (.slice none 0 0)
  have HQ:=zH hq
  have HZ:=zH (exp_err (m:=o.mv (im-1)) HE.out (by decide) B03.out hbp hot (by omega) hs3)
  clear hq hot
  go_wp2_with fail
  refine bodyPost_ret (results_ord2 rfl _ _ _ _ _ _ rfl HQ.out) rfl ?_
  exact HZ.out
 have hd1:decide (im<0)=false:=by rw [decide_eq_false_iff_not];exact hi2
 by_cases hi3:(k:Int)<im
 ·have HE:=zH (expE_range (o:=o) (im:=im) (k:=(k:Int)) HS.out (.inr (.inl hi3)))
  have hd2:decide ((k:Int)<im)=true:=by rw [decide_eq_true_eq];exact hi3
  have hd3:decide (im>(k:Int))=true:=by rw [decide_eq_true_eq];exact hi3
  obtain ⟨s1,s2,s3,g1,g2,g3,⟨p0,p1,p2⟩,⟨f0,f1,f2⟩,hq,hot⟩:=oput3 ((hbp.block _ l3).trans Q3.out) (.int .i64 0) (.int .i64 0) (.slice none 0 0)
  have HQ:=zH hq
  have HZ:=zH (exp_err (m:=o.mv (im-1)) HE.out (by decide) B03.out hbp hot (by omega) hs3)
  clear hq hot
  go_wp2_with fail
  refine bodyPost_ret (results_ord2 rfl _ _ _ _ _ _ rfl HQ.out) rfl ?_
  exact HZ.out
 have hd2:decide ((k:Int)<im)=false:=by rw [decide_eq_false_iff_not];exact hi3
 have hd3:decide (im>(k:Int))=false:=by rw [decide_eq_false_iff_not];exact hi3
 have CR:=zH (oArgs_upto 1 ((k:Int)-im) _ hsz o _ wp (zN _) (HV.out.below hbp))
 have HE0:Hid (o.rng 1 ((k:Int)-im)=false→o.expE im k=5):=zH (fun h=>expE_range HS.out (.inr (.inr h)))
 have HE1:Hid (o.rng 1 ((k:Int)-im)=true→o.expE im k=0):=zH (fun h=>expE_ok HS.out (by rintro (h1 | h1 | h1);exact hi2 h1;exact hi3 h1;rw [h] at h1;cases h1))
 obtain ⟨r,hr⟩:∃r,o.rng 1 ((k:Int)-im)=r:=⟨_,rfl⟩
 rw [hr] at CR HE0 HE1
 clear hr
 go_wp2_with fail
 refine CR.out.mono ?_
 rintro e wq ⟨rfl,hbq'⟩
 have hbq:=hbp.trans (hbq'.mono hbp.size)
 clear x0 x1 x2 x3 x4 x5 y0 y1 y2 CR hbq'
 have hsq:=hbq.size
 cases r
 ·have HE:=zH (HE0.out rfl)
  obtain ⟨s1,s2,s3,g1,g2,g3,⟨p0,p1,p2⟩,⟨f0,f1,f2⟩,hq,hot⟩:=oput3 ((hbq.block _ l3).trans Q3.out) (.int .i64 0) (.int .i64 0) (.slice none 0 0)
  have HQ:=zH hq
  have HZ:=zH (exp_err (m:=o.mv (im-1)) HE.out (by decide) B03.out hbq hot (by omega) hs3)
  clear hq hot
  go_wp2_with fail
  refine bodyPost_ret (results_ord2 rfl _ _ _ _ _ _ rfl HQ.out) rfl ?_
  exact HZ.out
 have HE:=zH (HE1.out rfl)
 obtain ⟨x0,x1,x2,x3,x4,x5⟩:=cells6d ((hbq.block _ (by omega)).trans Q1.out)
 obtain ⟨y0,y1,y2⟩:=cells3o ((hbq.block _ (by omega)).trans Q2.out)
 have CM:=zH (oMoved_upto (im-1) (by omega) (by omega) _ hsz o _ wq (zN _) hmod (HV.out.below hbq))
 obtain ⟨km,am,tm,htm⟩:=ord_node (o.mv (im-1))
 rw [htm] at CM
 have HTM:=zH htm
 clear htm
 go_wp2_with fail
 refine CM.out.mono ?_
 rintro e wm ⟨⟨v',rfl,hvm⟩,hbm'⟩
 obtain ⟨Am,cm,rfl,hpm⟩:=hvm.open_
 have hbm:=hbq.trans (hbm'.mono hbq.size)
 obtain ⟨s1,s2,s3,g1,g2,g3,⟨p0,p1,p2⟩,⟨f0,f1,f2⟩,hq,hot⟩:=oput3 ((hbm.block _ l3).trans Q3.out) (.int .i64 km) (.int .i64 am) (.slice Am tm.length cm)
 have HQ:=zH hq
 have HZ:Hid (OrdVP (fun b=>w.heap.size≤b) s3 (.node km am tm) (.agg #[.int .i64 km,.int .i64 am,.slice Am tm.length cm])):=zH (by
  refine hvm.keep (fun b hb hlt=>hot.block b hlt (fun e=>?_)) hot.size (fun b _ hb=>?_)
  ·have hb:wq.heap.size≤b:=hb
   have:=zO e
   omega
  have hb:wq.heap.size≤b:=hb
  show w.heap.size≤b
  omega)
 have HBZ:Hid (Below w.heap.size w s3):=zH (Oth.below (B03.out.trans (hbm.mono hs3)) hot (by omega) (Nat.le_trans hs3 hbm.size))
 clear hq hot hpm hvm hbm hbm' CM
 go_wp2_with fail
 refine bodyPost_ret (results_ord2 rfl _ _ _ _ _ _ rfl HQ.out) rfl ?_
 refine ⟨⟨_,by rw [HE.out];rfl,?_⟩,HBZ.out⟩
 rw [if_pos HE.out,HTM.out]
 exact HZ.out
end Go.Proofs.YtadjpadieljjlaaGreat
namespace Lfc
def awX:Raw:=.node 5 [] 0 []
def awS:Raw:=.node 4 [115] 0 [awX]
theorem aw_path:Raw.path [1] awX awS=some [0]:=by decide
theorem aw_up:Raw.up [1] awX awS=(2,[⟨1,awS,[0],0⟩]):=by rw [Raw.up,aw_path];rfl
theorem aw_no:Raw.path [1] awS awX=none:=by decide
theorem aw_up2:Raw.up [1] awS awX=(0,[]):=by rw [Raw.up,aw_no];rfl
theorem aw_chk:chkE ([awX]++[awS])=0:=by decide
theorem aw_chk2:chkE ([awS]++[awX])=0:=by decide
theorem aw_fits:Raw.fits [1] awX awS [0]=true:=by decide
theorem aw_fits2:Raw.fits [1] awX awS []=false:=by decide
theorem aw_same:Raw.tsm awS awS=true:=by decide
end Lfc
namespace Go.Proofs.YtadjpadieljjlaaGreat
open Go.RowKit Go.Maps
theorem treesAt_new {w:World} {g:Nat} {k p:Int} {n:List UInt8} {ts:List Lfc.Raw} {A:Option Addr} {c:Nat} (h:w.heap[g]?=some (.cells #[.int .i64 k,S n,.int .i64 p,.slice A ts.length c] 51 (0,0))) (ht:TreeV w (.node k n p ts) (.agg #[.int .i64 k,S n,.int .i64 p,.slice A ts.length c])):TreesAt w (some ⟨g,0,none⟩) [.node k n p ts]:=fun _=>by
 obtain ⟨v0,v1,v2,v3,e,htc⟩:=ht
 cases e
 refine ⟨g,0,rfl,zL h,?_⟩
 rw [TreesO,TreesO]
 exact ⟨⟨_,_,_,_,zC h 0,zC h 1,zC h 2,zC h 3,htc⟩,trivial⟩
theorem awx_v (w:World):TreeV w Lfc.awX (.agg #[.int .i64 5,S [],.int .i64 0,.slice none 0 0]):=TreeV.mk (ts:=[]) (by simp) (zN _) (fun h=>absurd rfl h)
theorem aws_v {w:World} {g:Nat} (h:w.heap[g]?=some (.cells #[.int .i64 5,S [],.int .i64 0,.slice none 0 0] 51 (0,0))):TreeV w Lfc.awS (.agg #[.int .i64 4,S [115],.int .i64 0,.slice (some ⟨g,0,none⟩) 1 1]) :=
 TreeV.mk (ts:=[Lfc.awX]) (by simp) (zN _) (treesAt_new (ts:=[]) h (awx_v w))
theorem ints_one {w:World} {g:Nat} {x:Int} (h:w.heap[g]?=some (.cells #[.int .i64 x] 3 (0,0))):IntsO w (some ⟨g,0,none⟩) [x]:=fun _=>by
 refine ⟨g,0,rfl,zL h,fun k hk=>?_⟩
 have hk1:k<1:=hk
 obtain rfl:k=0:=by omega
 exact zC h 0
theorem holds_two (t u:Lfc.Raw) (g h:Nat) (vt vu:Value) (A0:Option Addr) (w:World) (hA0:IntsO w A0 [1]) (ht:t.size≤1000) (hu:u.size≤1000) (hg:TreesAt w (some ⟨g,0,none⟩) [t]) (hh:TreesAt w (some ⟨h,0,none⟩) [u]) :
  Calls Tryz.prog 16 #[.slice none 0 0,.int .i64 1,.agg #[.int .i64 1,.int .i64 0,.slice none 0 0],.slice (some ⟨g,0,none⟩) 1 1,.agg #[.int .i64 1,.int .i64 0,.slice none 0 0],.slice (some ⟨h,0,none⟩) 1 1,.slice A0 1 1] w fun e w'=>e=.returned (.tuple #[.bool (Lfc.prv0 [1] ([t]++[u]) t u).isSome,.int .i64 (Lfc.chkE ([t]++[u]))])∧Below w.heap.size w w' :=
 oHolds1_any 0 0 [t] [u] (some ⟨g,0,none⟩) (some ⟨h,0,none⟩) A0 1 1 1 [1] w (by simp) hA0 (by simp) (by simp) (by simp) (by simp) (by intro x hx;simp at hx;rcases hx with rfl | rfl <;> omega) (fun h=>by cases h) (fun h=>by cases h) hg hh
theorem aw_prv:Lfc.prv0 [1] ([Lfc.awX]++[Lfc.awS]) Lfc.awX Lfc.awS=some [⟨1,Lfc.awS,[0],0⟩]:=by
 rw [Lfc.prv0,if_pos Lfc.aw_chk,Lfc.chain0,Lfc.aw_up];rfl
theorem aw_prv2:Lfc.prv0 [1] ([Lfc.awS]++[Lfc.awX]) Lfc.awS Lfc.awX=none:=by
 rw [Lfc.prv0,if_pos Lfc.aw_chk2,Lfc.chain0,Lfc.aw_up2];rfl
theorem aw_h1 (g h:Nat) (A0:Option Addr) (w:World) (hA0:IntsO w A0 [1]) (hg:TreesAt w (some ⟨g,0,none⟩) [Lfc.awX]) (hh:TreesAt w (some ⟨h,0,none⟩) [Lfc.awS]) :
  Calls Tryz.prog 16 #[.slice none 0 0,.int .i64 1,.agg #[.int .i64 1,.int .i64 0,.slice none 0 0],.slice (some ⟨g,0,none⟩) 1 1,.agg #[.int .i64 1,.int .i64 0,.slice none 0 0],.slice (some ⟨h,0,none⟩) 1 1,.slice A0 1 1] w fun e w'=>e=.returned (.tuple #[.bool true,.int .i64 0])∧Below w.heap.size w w':=by
 have:=holds_two Lfc.awX Lfc.awS g h (.bool true) (.bool true) A0 w hA0 (by decide) (by decide) hg hh
 rwa [aw_prv,Lfc.aw_chk] at this
theorem aw_h2 (g h:Nat) (A0:Option Addr) (w:World) (hA0:IntsO w A0 [1]) (hg:TreesAt w (some ⟨g,0,none⟩) [Lfc.awS]) (hh:TreesAt w (some ⟨h,0,none⟩) [Lfc.awX]) :
  Calls Tryz.prog 16 #[.slice none 0 0,.int .i64 1,.agg #[.int .i64 1,.int .i64 0,.slice none 0 0],.slice (some ⟨g,0,none⟩) 1 1,.agg #[.int .i64 1,.int .i64 0,.slice none 0 0],.slice (some ⟨h,0,none⟩) 1 1,.slice A0 1 1] w fun e w'=>e=.returned (.tuple #[.bool false,.int .i64 0])∧Below w.heap.size w w':=by
 have:=holds_two Lfc.awS Lfc.awX g h (.bool true) (.bool true) A0 w hA0 (by decide) (by decide) hg hh
 rwa [aw_prv2,Lfc.aw_chk2] at this
theorem aw_p (g h:Nat) (A0:Option Addr) (w:World) (hA0:IntsO w A0 [1]) (hg:TreesAt w (some ⟨g,0,none⟩) [Lfc.awX]) (hh:TreesAt w (some ⟨h,0,none⟩) [Lfc.awS]) :
  Calls Tryz.prog 11 #[.slice none 0 0,.int .i64 1,.agg #[.int .i64 1,.int .i64 0,.slice none 0 0],.slice (some ⟨g,0,none⟩) 1 1,.agg #[.int .i64 1,.int .i64 0,.slice none 0 0],.slice (some ⟨h,0,none⟩) 1 1,.slice A0 1 1] w fun e w'=>(∃A c B d,e=.returned (.tuple #[.agg #[.int .i64 0,.slice none 0 0,.slice A 1 c,.slice B 0 d],.bool true])∧LinksP (fun b=>w.heap.size≤b) w' A [⟨1,Lfc.awS,[0],0⟩])∧Below w.heap.size w w':=by
 have:=oProve1_any 0 0 [Lfc.awX] [Lfc.awS] (some ⟨g,0,none⟩) (some ⟨h,0,none⟩) A0 1 1 1 [1] w (by simp) hA0 (by simp) (by simp) (by simp) (by simp) (by intro x hx;simp at hx;rcases hx with rfl | rfl <;> decide) (fun h=>by cases h) (fun h=>by cases h) hg hh
 refine this.mono ?_
 rintro e w' ⟨⟨h1,_⟩ | ⟨l,A,c,B,d,h1,he,hc,hl⟩,hb⟩
 ·exact absurd (aw_prv.symm.trans h1) (by simp)
 cases (zO (aw_prv.symm.trans h1))
 exact ⟨⟨A,c,B,d,he,hl⟩,hb⟩
theorem aw_v (qq:Nat→Prop) (C Bk:Option Addr) (cC dk g h:Nat) (A0:Option Addr) (w:World) (hA0:IntsO w A0 [1]) (hg:TreesAt w (some ⟨g,0,none⟩) [Lfc.awX]) (hh:TreesAt w (some ⟨h,0,none⟩) [Lfc.awS]) (hl:LinksP qq w C [⟨1,Lfc.awS,[0],0⟩]) :
  Calls Tryz.prog 14 #[.slice none 0 0,.int .i64 1,.agg #[.int .i64 1,.int .i64 0,.slice none 0 0],.slice (some ⟨g,0,none⟩) 1 1,.agg #[.int .i64 1,.int .i64 0,.slice none 0 0],.slice (some ⟨h,0,none⟩) 1 1,.slice A0 1 1,.agg #[.int .i64 0,.slice none 0 0,.slice C 1 cC,.slice Bk 0 dk]] w fun e w'=>e=.returned (.bool true)∧Below w.heap.size w w' :=
 oVerify1_any [0] qq C Bk cC dk 0 0 [Lfc.awX] [Lfc.awS] (some ⟨g,0,none⟩) (some ⟨h,0,none⟩) A0 1 1 1 [1] w (by simp) hA0 (by simp) (by simp) (by simp) (by simp) (by intro x hx;simp at hx;rcases hx with rfl | rfl <;> decide) (fun h=>by cases h) (fun h=>by cases h) hg hh Lfc.aw_chk (by simp) (by simp) hl Lfc.aw_fits Lfc.aw_same (fun k n p ts e=>by cases e;decide)
theorem aw_path (A0:Option Addr) (w:World) (v:Value) (hA0:IntsO w A0 [1]) (hv:TreeV w Lfc.awS v) :
  Calls Tryz.prog 20 #[.agg #[.int .i64 5,S [],.int .i64 0,.slice none 0 0],v,.slice A0 1 1] w fun e w'=>(∃A c,e=.returned (.tuple #[.slice A 1 c,.bool true]))∧Below w.heap.size w w':=by
 refine (oPath_any Lfc.awX Lfc.awS _ v [1] A0 1 w (by simp) (by decide) (by decide) hA0 (awx_v w) hv).mono ?_
 intro e w' h
 rw [Lfc.aw_path] at h
 obtain ⟨⟨A,c,he,_⟩,hb⟩:=h.yes
 exact ⟨⟨A,c,he⟩,hb⟩
theorem aw_f (q:List Int) (r:Bool) (A0 A1:Option Addr) (c1:Nat) (w:World) (v:Value) (hq:q.length≤10) (hr:Lfc.Raw.fits [1] Lfc.awX Lfc.awS q=r) (hA0:IntsO w A0 [1]) (hA1:IntsO w A1 q) (hv:TreeV w Lfc.awS v) :
  Calls Tryz.prog 32 #[.agg #[.int .i64 5,S [],.int .i64 0,.slice none 0 0],v,.slice A1 q.length c1,.slice A0 1 1] w fun e w'=>e=.returned (.bool r)∧Below w.heap.size w w':=by
 have:=oFits_any Lfc.awX Lfc.awS _ v q A1 c1 [1] A0 1 w (by omega) (by simp) (by decide) (by decide) hA1 hA0 (awx_v w) hv
 rwa [hr] at this
theorem aw_val (n:Int) (r:Int) (w:World) (hn:-5≤n∧n≤5) (hr:(Lfc.Ord.node 1 0 []).vld n=r) :
  Calls Tryz.prog 33 #[.agg #[.int .i64 1,.int .i64 0,.slice none 0 0],.int .i64 n] w fun e w'=>e=.returned (.int .i64 r)∧Below w.heap.size w w':=by
 have:=oValid_any (.node 1 0 []) _ n w (by rw [Lfc.Ord.size,Lfc.Ord.sizes];omega) (by omega) (by omega) (ord_arg w 0)
 rwa [hr] at this
theorem aw_shp (A:Option Addr) (c:Nat) (w:World) (hv:OrdV w (.node 1 0 []) (.agg #[.int .i64 1,.int .i64 0,.slice A 0 c])) :
  Calls Tryz.prog 34 #[.agg #[.int .i64 1,.int .i64 0,.slice none 0 0],.agg #[.int .i64 1,.int .i64 0,.slice A 0 c]] w fun e w'=>e=.returned (.bool true)∧Below w.heap.size w w':=by
 have:=oShape_upto 10 (by omega) (.node 1 0 []) (.node 1 0 []) _ _ w (by rw [Lfc.Ord.size,Lfc.Ord.sizes];omega) (ord_arg w 0) hv
 rwa [Lfc.shp_arg] at this
end Go.Proofs.YtadjpadieljjlaaGreat
