/- Parts of the proof that no input makes the law false: OiK, OiS, OiSc. -/
import Derived.Test.YtadjpadieljjlaaGreatIvAX
set_option linter.unusedVariables false
set_option linter.unusedSimpArgs false
set_option maxRecDepth 100000
set_option maxHeartbeats 32000000
namespace Go.Proofs.YtadjpadieljjlaaGreat
open Go.RowKit Go.Maps
attribute [local go_sem ↓] Go.wp_at_zero Go.wp_at_succ
def MacAns (w:World) (g:Nat) (q:Nat→Prop) (r:Lfc.Raw→Prop) (e:Ending) (w':World):Prop :=
 (∃ (wk er:Int) (k:Int) (nm:List UInt8) (p:Int) (ts:List Lfc.Raw) (A:Option Addr) (c:Nat),e=.returned (.agg #[.int .i64 k,S nm,.int .i64 p,.slice A (List.length ts) c])∧w'.heap[g]?=some (.cells #[.int .i64 wk,.int .i64 er] 107 (0,0))∧(er=0→0≤wk∧wk≤262144)∧TreeVP q w' (.node k nm p ts) (.agg #[.int .i64 k,S nm,.int .i64 p,.slice A (List.length ts) c])∧(er=0→r (.node k nm p ts)))∧Oth g w w'
theorem mac_set {W:World} {g:Nat} {a b:Value} (h:W.heap[g]?=some (.cells #[a,b] 107 (0,0))) (v:Value):(W.setCell ⟨g,1,none⟩ v).heap[g]?=some (.cells #[a,v] 107 (0,0)):=by simp [World.setCell,Array.getElem?_modify,h]
theorem mac_set0 {W:World} {g:Nat} {a b:Value} (h:W.heap[g]?=some (.cells #[a,b] 107 (0,0))) (v:Value):(W.setCell ⟨g,0,none⟩ v).heap[g]?=some (.cells #[v,b] 107 (0,0)):=by simp [World.setCell,Array.getElem?_modify,h]
theorem cells2m {W:World} {g:Nat} {a b:Value} (h:W.heap[g]?=some (.cells #[a,b] 107 (0,0))):W.cell? ⟨g,0,none⟩=some a∧W.cell? ⟨g,1,none⟩=some b:=⟨zC h 0,zC h 1⟩
theorem mac_ret {w wr:World} {g G:Nat} {q:Nat→Prop} {r:Lfc.Raw→Prop} {wk er k p:Int} {nm:List UInt8} {ts:List Lfc.Raw} {A:Option Addr} {c:Nat} {z0 z1 z2 z3:Value} (hG:w.heap.size≤G) (hgG:g≠G) (ho:Oth g w wr) (hg:wr.heap[g]?=some (.cells #[.int .i64 wk,.int .i64 er] 107 (0,0))) (hwk:er=0→0≤wk∧wk≤262144) (hq:wr.heap[G]?=some (.cells #[z0,z1,z2,z3] 51 (0,0))) (hv:TreeVP (fun b=>q b∧b≠G) wr (.node k nm p ts) (.agg #[.int .i64 k,S nm,.int .i64 p,.slice A ts.length c])) (hr:er=0→r (.node k nm p ts)) :
  ∃s1 s2 s3 s4,wr.setCell ⟨G,0,none⟩ (.int .i64 k)=s1∧s1.setCell ⟨G,1,none⟩ (S nm)=s2∧s2.setCell ⟨G,2,none⟩ (.int .i64 p)=s3∧s3.setCell ⟨G,3,none⟩ (.slice A ts.length c)=s4 ∧
   (wr.cell? ⟨G,0,none⟩=some z0∧s1.cell? ⟨G,1,none⟩=some z1∧s2.cell? ⟨G,2,none⟩=some z2∧s3.cell? ⟨G,3,none⟩=some z3) ∧
   (wr.frozen? ⟨G,0,none⟩=false∧s1.frozen? ⟨G,1,none⟩=false∧s2.frozen? ⟨G,2,none⟩=false∧s3.frozen? ⟨G,3,none⟩=false) ∧
   s4.heap[G]?=some (.cells #[.int .i64 k,S nm,.int .i64 p,.slice A ts.length c] 51 (0,0))∧Hid (MacAns w g q r (.returned (.agg #[.int .i64 k,S nm,.int .i64 p,.slice A ts.length c])) s4):=by
 obtain ⟨s1,s2,s3,s4,g1,g2,g3,g4,hy,hf,hq4,hot⟩:=tput4 hq (.int .i64 k) (S nm) (.int .i64 p) (.slice A ts.length c)
 refine ⟨s1,s2,s3,s4,g1,g2,g3,g4,hy,hf,hq4,zH ⟨⟨wk,er,k,nm,p,ts,A,c,rfl,hot.heap hg hgG,hwk,?_,hr⟩,?_⟩⟩
 ·exact hv.keep (fun b hb hlt=>hot.block b hlt (fun e=>hb.2 (zO e))) hot.size (fun b _ hb=>hb.1)
 exact ⟨hot.os.trans ho.os,hot.tape.trans ho.tape,hot.output.trans ho.output,Nat.le_trans ho.size hot.size,fun b hb hn=>(hot.block b (Nat.lt_of_lt_of_le hb ho.size) (fun e=>by have:=zO e;omega)).trans (ho.block b hb hn)⟩
theorem mac_zero {w wr:World} {g G:Nat} {q:Nat→Prop} {r:Lfc.Raw→Prop} {wk er:Int} {z0 z1 z2 z3:Value} (hG:w.heap.size≤G) (hgG:g≠G) (ho:Oth g w wr) (hg:wr.heap[g]?=some (.cells #[.int .i64 wk,.int .i64 er] 107 (0,0))) (her:er≠0) (hq:wr.heap[G]?=some (.cells #[z0,z1,z2,z3] 51 (0,0))) :
  ∃s1 s2 s3 s4,wr.setCell ⟨G,0,none⟩ (.int .i64 0)=s1∧s1.setCell ⟨G,1,none⟩ (S [])=s2∧s2.setCell ⟨G,2,none⟩ (.int .i64 0)=s3∧s3.setCell ⟨G,3,none⟩ (.slice none 0 0)=s4 ∧
   (wr.cell? ⟨G,0,none⟩=some z0∧s1.cell? ⟨G,1,none⟩=some z1∧s2.cell? ⟨G,2,none⟩=some z2∧s3.cell? ⟨G,3,none⟩=some z3) ∧
   (wr.frozen? ⟨G,0,none⟩=false∧s1.frozen? ⟨G,1,none⟩=false∧s2.frozen? ⟨G,2,none⟩=false∧s3.frozen? ⟨G,3,none⟩=false) ∧
   s4.heap[G]?=some (.cells #[.int .i64 0,S [],.int .i64 0,.slice none 0 0] 51 (0,0))∧Hid (MacAns w g q r (.returned (.agg #[.int .i64 0,S [],.int .i64 0,.slice none 0 0])) s4) :=
 mac_ret (k:=0) (nm:=[]) (p:=0) (ts:=[]) (A:=none) (c:=0) hG hgG ho hg (fun h=>absurd h her) hq (TreeVP.mk (by decide) (zN _) (fun h=>absurd rfl h)) (fun h=>absurd h her)
theorem mChecked_any (g:Nat) (wk:Int) (q:Nat→Prop) (t:Lfc.Raw) (v:Value) (w:World) (ht:t.size≤1000000) (hwk:0≤wk∧wk≤262144) (hg:w.heap[g]?=some (.cells #[.int .i64 wk,.int .i64 0] 107 (0,0))) (hqg:∀b,q b→b≠g) (hv:TreeVP (fun b=>q b∧b<w.heap.size) w t v) :
  Calls Tryz.prog 82 #[.pointer (some ⟨g,0,none⟩),v] w (MacAns w g q (fun x=>x=t)):=by
 have lg:=zL hg
 have HWK:=zH hwk
 obtain ⟨kd,nm,ps,ts⟩:=t
 obtain ⟨A,c,rfl,hP⟩:=hv.openT
 obtain ⟨w1,hw1⟩:∃w1,w.alloc (.cells #[.int .i64 kd,S nm,.int .i64 ps,.slice A ts.length c] 51)=w1:=⟨_,rfl⟩
 obtain ⟨w2,hw2⟩:∃w2,w1.alloc (.cells #[.int .i64 0,S [],.int .i64 0,.slice none 0 0] 51)=w2:=⟨_,rfl⟩
 have b1:=zG hw1
 have b2:=zG hw2
 have q1:=zQ hw1
 have q2:=zQ hw2
 have l1:=zL q1
 have l2:=zL q2
 have b12:Below w.heap.size w w2:=b1.trans (b2.mono (by omega))
 have B12:=zH b12
 have Q1:=zH ((b2.block _ l1).trans q1)
 have Q2:=zH q2
 have G2:=zH ((b12.block _ lg).trans hg)
 have HV:=zH hv
 have CS:=zH (sSmall_any (.node kd nm ps ts) (.agg #[.int .i64 kd,S nm,.int .i64 ps,.slice A ts.length c]) w2 ht (hv.toV.below b12))
 obtain ⟨x0,x1,x2,x3⟩:=cells4t Q1.out
 obtain ⟨m0,m1⟩:=cells2m G2.out
 clear hv hP hg b1 b2 q1 q2 b12 ht hwk
 go_enter Tryz.func82,Tryz.ntmps82
 go_upto_region 1 with fail
 clear hw1 hw2
 go_wp2_with fail
 refine CS.out.mono ?_
 rintro e w3 ⟨⟨b,rfl⟩,b3⟩
 clear x0 x1 x2 x3 m0 m1 CS
 have B03:=zH (B12.out.trans (b3.mono B12.out.size))
 have G3:=zH ((b3.block _ (by omega)).trans G2.out)
 have Q13:=zH ((b3.block _ (by omega)).trans Q1.out)
 have Q23:=zH ((b3.block _ l2).trans Q2.out)
 clear b3
 obtain ⟨x0,x1,x2,x3⟩:=cells4t Q13.out
 obtain ⟨m0,m1⟩:=cells2m G3.out
 cases b with
 | true =>
  obtain ⟨s1,s2,s3,s4,g1,g2,g3,g4,⟨p0,p1,p2,p3⟩,⟨f0,f1,f2,f3⟩,hq,HZ⟩:=mac_ret (w:=w) (q:=q) (r:=fun x=>x=.node kd nm ps ts) (by omega) (by omega) (Oth.of_below B03.out) G3.out (fun _=>HWK.out) Q23.out (HV.out.keep (fun b hb hlt=>B03.out.block b hb.2) B03.out.size (fun b _ hb=>⟨hb.1,by have:=hb.2;omega⟩)) (fun _=>rfl)
  have HQ:=zH hq
  clear hq
  go_wp2_with fail
  refine bodyPost_ret (results_term rfl _ _ _ _ _ _ _ rfl HQ.out) rfl ?_
  exact HZ.out
 | false =>
  obtain ⟨w4,hw4⟩:∃w4,w3.setCell ⟨g,1,none⟩ (.int .i64 2)=w4:=⟨_,rfl⟩
  have o4:Oth g w3 w4:=by rw [←hw4];exact Oth.set _ _
  have g4':w4.heap[g]?=some (.cells #[.int .i64 wk,.int .i64 2] 107 (0,0)):=by rw [←hw4];exact mac_set G3.out _
  have fg:=zF G3.out 1
  obtain ⟨m2,m3⟩:=cells2m g4'
  obtain ⟨s1,s2,s3,s4,g1,g2,g3,g4,⟨p0,p1,p2,p3⟩,⟨f0,f1,f2,f3⟩,hq,HZ⟩:=mac_zero (w:=w) (q:=q) (r:=fun x=>x=.node kd nm ps ts) (by omega) (by omega) ((Oth.of_below B03.out).trans o4) g4' (by decide) (o4.heap Q23.out (by omega))
  have HQ:=zH hq
  clear hq o4 g4'
  go_wp2_with fail
  refine bodyPost_ret (results_term rfl _ _ _ _ _ _ _ rfl HQ.out) rfl ?_
  exact HZ.out
theorem mApplied_any (g:Nat) (wk:Int) (q:Nat→Prop) (t:Lfc.Raw) (v:Value) (Aa:Option Addr) (na ca:Nat) (w:World) (ht:t.size≤1000000) (hwk:0≤wk∧wk≤262144) (hg:w.heap[g]?=some (.cells #[.int .i64 wk,.int .i64 0] 107 (0,0))) (hqg:∀b,q b→b≠g) (hv:TreeVP (fun b=>q b∧b<w.heap.size) w t v) :
  Calls Tryz.prog 81 #[.pointer (some ⟨g,0,none⟩),v,.agg #[S [105],.slice none 0 0],.slice Aa na ca] w (MacAns w g q (fun x=>na=0∧x=t)):=by
 have lg:=zL hg
 obtain ⟨kd,nm,ps,ts⟩:=t
 obtain ⟨A,c,rfl,hP⟩:=hv.openT
 obtain ⟨w1,hw1⟩:∃w1,w.alloc (.cells #[.int .i64 kd,S nm,.int .i64 ps,.slice A ts.length c] 51)=w1:=⟨_,rfl⟩
 obtain ⟨w2,hw2⟩:∃w2,w1.alloc (.cells #[S [105],.slice none 0 0] 63)=w2:=⟨_,rfl⟩
 obtain ⟨w3,hw3⟩:∃w3,w2.alloc (.cells #[.int .i64 0,S [],.int .i64 0,.slice none 0 0] 51)=w3:=⟨_,rfl⟩
 have b1:=zG hw1
 have b2:=zG hw2
 have b3:=zG hw3
 have q1:=zQ hw1
 have q2:=zQ hw2
 have q3:=zQ hw3
 have l1:=zL q1
 have l2:=zL q2
 have l3:=zL q3
 have b23:Below w1.heap.size w1 w3:=b2.trans (b3.mono (by omega))
 have b13:Below w.heap.size w w3:=b1.trans (b23.mono (by omega))
 have B13:=zH b13
 have Q1:=zH ((b23.block _ l1).trans q1)
 have Q2:=zH ((b3.block _ l2).trans q2)
 have Q3:=zH q3
 have G3:=zH ((b13.block _ lg).trans hg)
 have CC:=zH (mChecked_any g wk (fun b=>q b∧b≠w2.heap.size) (.node kd nm ps ts) (.agg #[.int .i64 kd,S nm,.int .i64 ps,.slice A ts.length c]) w3 ht hwk ((b13.block _ lg).trans hg) (fun b hb=>hqg b hb.1) (hv.keep (fun b hb hlt=>b13.block b hb.2) b13.size (fun b hlt hb=>⟨⟨hb.1,by have:=hb.2;omega⟩,by have:=hb.2;omega⟩)))
 obtain ⟨x0,x1,x2,x3⟩:=cells4t Q1.out
 have y0:=(zC Q2.out 0:w3.cell? ⟨w1.heap.size,0,none⟩=some (S [105]))
 have y1:=(zC Q2.out 1:w3.cell? ⟨w1.heap.size,1,none⟩=some (.slice none 0 0))
 obtain ⟨m0,m1⟩:=cells2m G3.out
 clear hv hP hg b1 b2 b3 q1 q2 q3 b13 b23 ht hwk
 go_enter Tryz.func81,Tryz.ntmps81
 go_wp2_with fail
 clear hw1 hw2 hw3
 go_loopw [3] (fun s wr=>s=.slice Aa na ca∧wr=w3) (fun _ _=>0)
 case atStart=>exact ⟨rfl,rfl⟩
 obtain ⟨rfl,hwr⟩:=hrel
 obtain rfl:w3=wr:=hwr.symm
 clear hwr
 have BAD:Hid (∀w4,w3.setCell ⟨g,1,none⟩ (.int .i64 6)=w4→Hid (Oth g w3 w4∧w4.heap[g]?=some (.cells #[.int .i64 wk,.int .i64 6] 107 (0,0)))):=zH (fun w4 hw4=>zH ⟨by rw [←hw4];exact Oth.set _ _,by rw [←hw4];exact mac_set G3.out _⟩)
 obtain ⟨w4,hw4⟩:∃w4,w3.setCell ⟨g,1,none⟩ (.int .i64 6)=w4:=⟨_,rfl⟩
 obtain ⟨o4,g4'⟩:=(BAD.out w4 hw4).out
 have fg:=zF G3.out 1
 obtain ⟨m2,m3⟩:=cells2m g4'
 obtain ⟨s1,s2,s3,s4,g1,g2,g3,g4,⟨p0,p1,p2,p3⟩,⟨f0,f1,f2,f3⟩,hq,HZ⟩:=mac_zero (w:=w) (q:=q) (r:=fun x=>na=0∧x=.node kd nm ps ts) (by omega) (by omega) ((Oth.of_below B13.out).trans o4) g4' (by decide) (o4.heap Q3.out (by omega))
 have HQ:=zH hq
 clear hq o4 g4' BAD
 by_cases hna:na=0
 ·subst hna
  by_cases hk3:kd=3
  ·subst hk3
   go_wp2_with fail
   refine bodyPost_ret (results_term rfl _ _ _ _ _ _ _ rfl HQ.out) rfl ?_
   exact (by have:=HZ.out;simpa using this)
  have hk3f:(kd == 3)=false:=by simpa using hk3
  have hk3g:decide (kd=3)=false:=by simpa using hk3
  clear hw4 fg m2 m3 g1 g2 g3 g4 p0 p1 p2 p3 f0 f1 f2 f3 HQ HZ hk3
  go_wp2_with fail
  refine CC.out.mono ?_
  rintro e w5 ⟨⟨wk5,er5,k5,n5,i5,ts5,A5,c5,rfl,hg5,hwk5,hv5,hr5⟩,o5⟩
  obtain ⟨s1,s2,s3,s4,g1,g2,g3,g4,⟨p0,p1,p2,p3⟩,⟨f0,f1,f2,f3⟩,hq,HZ⟩:=mac_ret (w:=w) (q:=q) (r:=fun x=>0=0∧x=.node kd nm ps ts) (by omega) (by omega) ((Oth.of_below B13.out).trans o5) hg5 hwk5 (o5.heap Q3.out (by omega)) hv5 (fun h=>⟨rfl,hr5 h⟩)
  have HQ:=zH hq
  clear hq hg5 hwk5 hv5 hr5 o5 x0 x1 x2 x3 y0 y1 m0 m1
  go_wp2_with fail
  refine bodyPost_ret (results_term rfl _ _ _ _ _ _ _ rfl HQ.out) rfl ?_
  exact (by have:=HZ.out;simpa using this)
 have hn1:((na:Int) == 0)=false:=by simp;omega
 have hn2:decide ((na:Int)=0)=false:=by simp;omega
 go_wp2_with fail
 refine bodyPost_ret (results_term rfl _ _ _ _ _ _ _ rfl HQ.out) rfl ?_
 exact HZ.out
end Go.Proofs.YtadjpadieljjlaaGreat
namespace Lfc
theorem objs_at:∀ (ts:List Raw),Raw.objs ts=true→∀k (h:k<ts.length),ts[k].obj=true
 | [],_,k,h=>by cases h
 | a :: r,h,k,hk=>by
  rw [Raw.objs,Bool.and_eq_true] at h
  cases k with
  | zero=>exact h.1
  | succ k=>exact objs_at r h.2 k (by simpa using hk)
theorem obj_cases {k p:Int} {n:List UInt8} {ts:List Raw} (h:(Raw.node k n p ts).obj=true):Raw.objs ts=true∧((k=3∧p=0∧ts.length=1∧(n=[]∨n=[95]∨isName n=true))∨(k=4∧p=0∧isName n=true)∨(k=5∧n=[]∧0≤p∧p≤1048576)∨(k=6∧n=[]∧0≤p∧p<2048)):=by
 rw [Raw.obj] at h
 by_cases h3:k=3
 ·rw [if_pos h3] at h
  simp only [tbound,Bool.and_eq_true,Bool.or_eq_true,decide_eq_true_eq] at h
  obtain ⟨⟨⟨h1,h2⟩,h4⟩,h5⟩:=h
  exact ⟨h5,.inl ⟨h3,h1,h2,by rcases h4 with (h | h) | h <;> simp [h]⟩⟩
 rw [if_neg h3] at h
 by_cases h4:k=4
 ·rw [if_pos h4] at h
  simp only [Bool.and_eq_true,decide_eq_true_eq] at h
  exact ⟨h.2,.inr (.inl ⟨h4,h.1.2,h.1.1⟩)⟩
 rw [if_neg h4] at h
 by_cases h5:k=5
 ·rw [if_pos h5] at h
  simp only [Bool.and_eq_true,decide_eq_true_eq] at h
  exact ⟨h.2,.inr (.inr (.inl ⟨h5,h.1.1.1,h.1.1.2,h.1.2⟩))⟩
 rw [if_neg h5] at h
 by_cases h6:k=6
 ·rw [if_pos h6] at h
  simp only [Bool.and_eq_true,decide_eq_true_eq] at h
  exact ⟨h.2,.inr (.inr (.inr ⟨h6,h.1.1.1,h.1.1.2,h.1.2⟩))⟩
 rw [if_neg h6] at h;cases h
end Lfc
namespace Go.Proofs.YtadjpadieljjlaaGreat
open Go.RowKit
attribute [local go_sem ↓] Go.wp_at_zero Go.wp_at_succ
theorem sSortsO (m:Nat) (hmm:m≤1000000):∀ (t:Lfc.Raw) (v:Value) (w:World),t.size≤m→t.obj=true→TreeV w t v →
  Calls Tryz.prog 74 #[v] w fun e w'=>(∃r:Nat,(r=1∨r=3)∧e=.returned (.int .i64 (r:Int)))∧Below w.heap.size w w':=by
 induction m with
 | zero=>intro t v w h _;have:=t.size_pos;omega
 | succ m ih0 =>
  intro t v w hm hob hv
  obtain ⟨kd,nm,ps,ts⟩:=t
  have hnl:=hv.name_le
  obtain ⟨A,c,rfl,hc,hA⟩:=hv.open_
  simp only [Lfc.Raw.size] at hm
  have hlen:=Lfc.Raw.sizes_len ts
  have IH:=zH (ih0 (by omega))
  obtain ⟨hos,hcs⟩:=Lfc.obj_cases hob
  have OBS:=zH (Lfc.objs_at ts hos)
  have CN:=zH (fun W=>rIsName_any nm W (by omega))
  clear ih0 hv hob hos hnl
  rcases hcs with ⟨rfl,rfl,hl1,hn⟩ | ⟨rfl,rfl,hn⟩ | ⟨rfl,rfl,hp0,hp1⟩ | ⟨rfl,rfl,hp0,hp1⟩
  ·have hmem:=Lfc.Raw.sizes_mem ts ts[0] (List.getElem_mem _)
   have hob:=OBS.out 0 (by omega)
   obtain ⟨w0,hw0⟩:∃w0,w.alloc (.cells #[.int .i64 3,S nm,.int .i64 0,.slice A ts.length c] 51)=w0:=⟨_,rfl⟩
   have b0:=zG hw0
   have q0:=zQ hw0
   have s0:=zL q0
   obtain ⟨x0,x1,x2,x3⟩:=cells4t q0
   obtain ⟨b,o,k1,n1,p1,us,B,c1,rfl,hb,ht,d0,d1,d2,d3,hcu,hB,hT⟩:=(hA.below b0).at_ (i:=0) (by omega)
   have hlz:(0:Int)<(ts.length:Int):=by omega
   have g1:((ts.length:Int) == 1)=true:=by simp;omega
   have g2:((ts.length:Int) == 2)=false:=by simp;omega
   simp only [Nat.zero_mul,Nat.add_zero] at d0 d1 d2 d3
   have CALL:=zH (IH.out ts[0] _ w0 (by omega) hob hT)
   have B0:=zH b0
   have ns:((nm == [])=true)∨((nm == [])=false∧(nm == [95])=true)∨((nm == [])=false∧(nm == [95])=false∧Lfc.isName nm=true):=by
    by_cases e1:nm=[]
    ·exact .inl (by simp [e1])
    by_cases e2:nm=[95]
    ·exact .inr (.inl ⟨by simpa using e1,by simp [e2]⟩)
    exact .inr (.inr ⟨by simpa using e1,by simpa using e2,(hn.resolve_left e1).resolve_left e2⟩)
   have NS:=zH ns
   clear hB ht hT hob hmem hA b0 q0 hn ns hl1
   rcases NS.out with e1 | ⟨e1,e2⟩ | ⟨e1,e2,e3⟩
   ·go_enter Tryz.func74,Tryz.ntmps74
    go_wp2_with fail
    (try rw [hw0])
    refine CALL.out.mono ?_
    rintro e w1 ⟨⟨r,hr,rfl⟩,hb1⟩
    have he:bits BinOp.and IntKind.i64 (r:Int) 1=1:=by rcases hr with rfl | rfl <;> decide
    go_wp2_with fail
    go_ret
    exact ⟨⟨1,by omega,rfl⟩,B0.out.trans (hb1.mono B0.out.size)⟩
   ·go_enter Tryz.func74,Tryz.ntmps74
    go_wp2_with fail
    (try rw [hw0])
    refine CALL.out.mono ?_
    rintro e w1 ⟨⟨r,hr,rfl⟩,hb1⟩
    have he:bits BinOp.and IntKind.i64 (r:Int) 1=1:=by rcases hr with rfl | rfl <;> decide
    go_wp2_with fail
    go_ret
    exact ⟨⟨1,by omega,rfl⟩,B0.out.trans (hb1.mono B0.out.size)⟩
   have CN2:=zH (fun W=>by have:=CN.out W;rw [e3] at this;exact this)
   go_enter Tryz.func74,Tryz.ntmps74
   go_wp2_with fail
   refine (CN2.out _).mono ?_
   rintro e w2 ⟨rfl,rfl⟩
   (try rw [hw0])
   go_wp2_with fail
   refine CALL.out.mono ?_
   rintro e w1 ⟨⟨r,hr,rfl⟩,hb1⟩
   have he:bits BinOp.and IntKind.i64 (r:Int) 1=1:=by rcases hr with rfl | rfl <;> decide
   go_wp2_with fail
   go_ret
   exact ⟨⟨1,by omega,rfl⟩,B0.out.trans (hb1.mono B0.out.size)⟩
  ·obtain ⟨w0,hw0⟩:∃w0,w.alloc (.cells #[.int .i64 4,S nm,.int .i64 0,.slice A ts.length c] 51)=w0:=⟨_,rfl⟩
   have b0:=zG hw0
   have q0:=zQ hw0
   have s0:=zL q0
   obtain ⟨x0,x1,x2,x3⟩:=cells4t q0
   have HA:=zH (hA.below b0)
   have B0:=zH b0
   have Q0:=zH q0
   clear hA b0 q0
   have CN2:=zH (fun W=>by have:=CN.out W;rw [hn] at this;exact this)
   have HW0:=zH hw0
   clear hn
   go_enter Tryz.func74,Tryz.ntmps74
   go_wp2_with fail
   refine (CN2.out _).mono ?_
   rintro e w2 ⟨rfl,rfl⟩
   (try rw [hw0])
   clear hw0
   go_wp2_with fail
   go_loopw [6] (fun i wr=>∃k:Nat,k≤ts.length∧i=.int .i64 k∧Below w0.heap.size w0 wr) (fun i _=>ts.length-(intOf i).toNat)
   case atStart=>exact ⟨0,by omega,rfl,by first | exact zB _ _ | (rw [HW0.out];exact zB _ _)⟩
   obtain ⟨k,hk,rfl,hbw⟩:=hrel
   clear x0 x1 x2 x3
   obtain ⟨x0,x1,x2,x3⟩:=cells4t ((hbw.block _ s0).trans Q0.out)
   have BR:=zH (B0.out.trans (hbw.mono B0.out.size))
   have hsr:=hbw.size
   by_cases hlt:k<ts.length
   ·have hm0:=Lfc.Raw.sizes_mem ts ts[k] (List.getElem_mem _)
    have hob:=OBS.out k hlt
    obtain ⟨b,o,k1,n1,p1,us,B,c1,rfl,hb,ht,d0,d1,d2,d3,hcu,hB,hT⟩:=(HA.out.below hbw).at_ hlt
    have HBW:=zH hbw
    have CALL:=zH (IH.out ts[k] _ wr (by omega) hob hT)
    clear hB ht hbw hob hT
    go_wp2_with fail
    refine CALL.out.mono ?_
    rintro e w1 ⟨⟨r,hr,rfl⟩,hb1⟩
    clear x0 x1 x2 x3 d0 d1 d2 d3 CALL
    have he:bits BinOp.and IntKind.i64 (r:Int) 1=1:=by rcases hr with rfl | rfl <;> decide
    go_wp2_with fail
    go_roundw
    case rel=>exact ⟨k+1,by omega,by go_num,HBW.out.trans (hb1.mono hsr)⟩
    case measure=>simp [intOf];omega
   clear hbw
   go_wp2_with fail
   go_ret
   exact ⟨⟨3,by omega,rfl⟩,BR.out⟩
  ·obtain ⟨w0,hw0⟩:∃w0,w.alloc (.cells #[.int .i64 5,S [],.int .i64 ps,.slice A ts.length c] 51)=w0:=⟨_,rfl⟩
   have b0:=zG hw0
   have q0:=zQ hw0
   have s0:=zL q0
   obtain ⟨x0,x1,x2,x3⟩:=cells4t q0
   have HA:=zH (hA.below b0)
   have B0:=zH b0
   have Q0:=zH q0
   clear hA b0 q0
   have HW0:=zH hw0
   have g0:decide (ps≥0)=true:=by rw [decide_eq_true_eq];omega
   have g1:decide (ps≤1048576)=true:=by rw [decide_eq_true_eq];omega
   clear hw0 hp0 hp1
   go_enter Tryz.func74,Tryz.ntmps74
   go_wp2_with fail
   go_loopw [6] (fun i wr=>∃k:Nat,k≤ts.length∧i=.int .i64 k∧Below w0.heap.size w0 wr) (fun i _=>ts.length-(intOf i).toNat)
   case atStart=>exact ⟨0,by omega,rfl,by first | exact zB _ _ | (rw [HW0.out];exact zB _ _)⟩
   obtain ⟨k,hk,rfl,hbw⟩:=hrel
   clear x0 x1 x2 x3
   obtain ⟨x0,x1,x2,x3⟩:=cells4t ((hbw.block _ s0).trans Q0.out)
   have BR:=zH (B0.out.trans (hbw.mono B0.out.size))
   have hsr:=hbw.size
   by_cases hlt:k<ts.length
   ·have hm0:=Lfc.Raw.sizes_mem ts ts[k] (List.getElem_mem _)
    have hob:=OBS.out k hlt
    obtain ⟨b,o,k1,n1,p1,us,B,c1,rfl,hb,ht,d0,d1,d2,d3,hcu,hB,hT⟩:=(HA.out.below hbw).at_ hlt
    have HBW:=zH hbw
    have CALL:=zH (IH.out ts[k] _ wr (by omega) hob hT)
    clear hB ht hbw hob hT
    go_wp2_with fail
    refine CALL.out.mono ?_
    rintro e w1 ⟨⟨r,hr,rfl⟩,hb1⟩
    clear x0 x1 x2 x3 d0 d1 d2 d3 CALL
    have he:bits BinOp.and IntKind.i64 (r:Int) 1=1:=by rcases hr with rfl | rfl <;> decide
    go_wp2_with fail
    go_roundw
    case rel=>exact ⟨k+1,by omega,by go_num,HBW.out.trans (hb1.mono hsr)⟩
    case measure=>simp [intOf];omega
   clear hbw
   go_wp2_with fail
   go_ret
   exact ⟨⟨1,by omega,rfl⟩,BR.out⟩
  obtain ⟨w0,hw0⟩:∃w0,w.alloc (.cells #[.int .i64 6,S [],.int .i64 ps,.slice A ts.length c] 51)=w0:=⟨_,rfl⟩
  have b0:=zG hw0
  have q0:=zQ hw0
  have s0:=zL q0
  obtain ⟨x0,x1,x2,x3⟩:=cells4t q0
  have HA:=zH (hA.below b0)
  have B0:=zH b0
  have Q0:=zH q0
  clear hA b0 q0
  have HW0:=zH hw0
  have g0:decide (ps≥0)=true:=by rw [decide_eq_true_eq];omega
  have g1:decide (ps<2048)=true:=by rw [decide_eq_true_eq];omega
  clear hw0 hp0 hp1
  go_enter Tryz.func74,Tryz.ntmps74
  go_wp2_with fail
  go_loopw [6] (fun i wr=>∃k:Nat,k≤ts.length∧i=.int .i64 k∧Below w0.heap.size w0 wr) (fun i _=>ts.length-(intOf i).toNat)
  case atStart=>exact ⟨0,by omega,rfl,by first | exact zB _ _ | (rw [HW0.out];exact zB _ _)⟩
  obtain ⟨k,hk,rfl,hbw⟩:=hrel
  clear x0 x1 x2 x3
  obtain ⟨x0,x1,x2,x3⟩:=cells4t ((hbw.block _ s0).trans Q0.out)
  have BR:=zH (B0.out.trans (hbw.mono B0.out.size))
  have hsr:=hbw.size
  by_cases hlt:k<ts.length
  ·have hm0:=Lfc.Raw.sizes_mem ts ts[k] (List.getElem_mem _)
   have hob:=OBS.out k hlt
   obtain ⟨b,o,k1,n1,p1,us,B,c1,rfl,hb,ht,d0,d1,d2,d3,hcu,hB,hT⟩:=(HA.out.below hbw).at_ hlt
   have HBW:=zH hbw
   have CALL:=zH (IH.out ts[k] _ wr (by omega) hob hT)
   clear hB ht hbw hob hT
   go_wp2_with fail
   refine CALL.out.mono ?_
   rintro e w1 ⟨⟨r,hr,rfl⟩,hb1⟩
   clear x0 x1 x2 x3 d0 d1 d2 d3 CALL
   have he:bits BinOp.and IntKind.i64 (r:Int) 1=1:=by rcases hr with rfl | rfl <;> decide
   go_wp2_with fail
   go_roundw
   case rel=>exact ⟨k+1,by omega,by go_num,HBW.out.trans (hb1.mono hsr)⟩
   case measure=>simp [intOf];omega
  clear hbw
  go_wp2_with fail
  go_ret
  exact ⟨⟨1,by omega,rfl⟩,BR.out⟩
theorem sSmallX (t:Lfc.Raw) (v:Value) (w:World) (hs:t.small=true) (hv:TreeV w t v) :
  Calls Tryz.prog 75 #[v] w fun e w'=>e=.returned (.bool true)∧Below w.heap.size w w':=by
 have HV:=zH hv
 rw [Lfc.Raw.small,Bool.and_eq_true,decide_eq_true_eq,decide_eq_true_eq] at hs
 obtain ⟨kd,nm,ps,ts⟩:=t
 obtain ⟨A,c,rfl,hc,hA⟩:=hv.open_
 obtain ⟨w0,hw0⟩:∃w0,w.alloc (.cells #[.int .i64 kd,S nm,.int .i64 ps,.slice A ts.length c] 51)=w0:=⟨_,rfl⟩
 have b0:=zG hw0
 have q0:=zQ hw0
 have s0:=zL q0
 obtain ⟨x0,x1,x2,x3⟩:=cells4t q0
 have C1:=zH (fun W (hb:Below w0.heap.size w0 W)=>sSize_any _ _ _ W (zN _) (by omega) (HV.out.below (b0.trans (hb.mono b0.size))))
 have C2:=zH (fun W (hb:Below w0.heap.size w0 W)=>sDepth_any _ _ _ W (zN _) (by omega) (HV.out.below (b0.trans (hb.mono b0.size))))
 have B0:=zH b0
 have Q0:=zH q0
 generalize (Lfc.Raw.node kd nm ps ts).size=z at *
 generalize (Lfc.Raw.node kd nm ps ts).depth=y at *
 have hz1:decide ((z:Int)≤4096)=true:=by simp;omega
 have hy1:decide ((y:Int)≤128)=true:=by simp;omega
 have hzn:=hs.1
 have hyn:=hs.2
 clear hv hA b0 q0 hs
 go_enter Tryz.func75,Tryz.ntmps75
 go_wp2_with fail
 refine (C1.out _ (zB _ _)).mono ?_
 rintro e w1 ⟨rfl,hb1⟩
 clear x0 x1 x2 x3 hw0
 obtain ⟨x0,x1,x2,x3⟩:=cells4t ((hb1.block _ s0).trans Q0.out)
 have HB1:=zH hb1
 clear hb1
 go_wp2_with fail
 refine (C2.out _ HB1.out).mono ?_
 rintro e w2 ⟨rfl,hb2⟩
 go_wp2_with fail
 go_ret
 exact ⟨rfl,B0.out.trans ((HB1.out.trans (hb2.mono HB1.out.size)).mono B0.out.size)⟩
theorem sWfO (t:Lfc.Raw) (v:Value) (w:World) (ho:t.isO=true) (hv:TreeV w t v) :
  Calls Tryz.prog 47 #[v] w fun e w'=>e=.returned (.int .i64 0)∧Below w.heap.size w w':=by
 have HV:=zH hv
 rw [Lfc.Raw.isO,Bool.and_eq_true] at ho
 have hs:=ho.2
 rw [Lfc.Raw.small,Bool.and_eq_true,decide_eq_true_eq,decide_eq_true_eq] at hs
 have HO:=zH ho
 have hz:=hs.1
 obtain ⟨kd,nm,ps,ts⟩:=t
 obtain ⟨A,c,rfl,hc,hA⟩:=hv.open_
 obtain ⟨w0,hw0⟩:∃w0,w.alloc (.cells #[.int .i64 kd,S nm,.int .i64 ps,.slice A ts.length c] 51)=w0:=⟨_,rfl⟩
 have b0:=zG hw0
 have q0:=zQ hw0
 have s0:=zL q0
 obtain ⟨x0,x1,x2,x3⟩:=cells4t q0
 have C1:=zH (fun W (hb:Below w0.heap.size w0 W)=>sSortsO 1000000 (by omega) _ _ W (by omega) HO.out.1 (HV.out.below (b0.trans (hb.mono b0.size))))
 have C2:=zH (fun W (hb:Below w0.heap.size w0 W)=>sSmallX _ _ W HO.out.2 (HV.out.below (b0.trans (hb.mono b0.size))))
 have B0:=zH b0
 have Q0:=zH q0
 clear hv hA b0 q0 hs hz ho
 go_enter Tryz.func47,Tryz.ntmps47
 go_wp2_with fail
 refine (C1.out _ (zB _ _)).mono ?_
 rintro e w1 ⟨⟨r,hr,rfl⟩,hb1⟩
 clear x0 x1 x2 x3 hw0
 obtain ⟨x0,x1,x2,x3⟩:=cells4t ((hb1.block _ s0).trans Q0.out)
 have HB1:=zH hb1
 have hz1:((r:Int) == 0)=false:=by simp;omega
 clear hb1
 go_wp2_with fail
 refine (C2.out _ HB1.out).mono ?_
 rintro e w2 ⟨rfl,hb2⟩
 have HB2:=zH (B0.out.trans ((HB1.out.trans (hb2.mono HB1.out.size)).mono B0.out.size))
 clear hb2
 go_wp2_with fail
 go_ret
 exact ⟨rfl,HB2.out⟩
end Go.Proofs.YtadjpadieljjlaaGreat
namespace Lfc
mutual
def Raw.scope:Raw→Int
 | .node k n p ts=>Raw.scopes (if k=3 then 1 else 0) ts (if k=5 then p+1 else 0)
def Raw.scopes (u:Int):List Raw→Int→Int
 | [],acc=>acc
 | a :: r,acc=>Raw.scopes u r (max acc (Raw.scope a-u))
end
mutual
def Raw.inS (n:Nat):Raw→Nat→Prop
 | .node k _ p ts,d=>(k=5→p<(n:Int)+(d:Int))∧Raw.inSs n ts (if k=3 then d+1 else d)
def Raw.inSs (n:Nat):List Raw→Nat→Prop
 | [],_=>True
 | a :: r,d=>Raw.inS n a d∧Raw.inSs n r d
end
theorem scopes_drop (u:Int) (ts:List Raw) (k:Nat) (z:Int) (h:k<ts.length):Raw.scopes u (ts.drop k) z=Raw.scopes u (ts.drop (k+1)) (max z (ts[k].scope-u)):=by
 rw [List.drop_eq_getElem_cons h,Raw.scopes]
mutual
theorem scope_range:∀t:Raw,t.obj=true→0≤t.scope∧t.scope≤1048577
 | .node k n p ts,h=>by
  obtain ⟨h1,h2⟩:=obj_cases h
  rw [Raw.scope]
  refine scopes_range _ ts _ (by split <;> omega) h1 ?_
  split
  ·rename_i e;subst e
   rcases h2 with ⟨e,_⟩ | ⟨e,_⟩ | ⟨_,_,_,_⟩ | ⟨e,_⟩ <;> first | omega | (exact absurd e (by decide))
  omega
theorem scopes_range (u:Int):∀ (ts:List Raw) (z:Int),0≤u→Raw.objs ts=true→(0≤z∧z≤1048577)→0≤Raw.scopes u ts z∧Raw.scopes u ts z≤1048577
 | [],z,_,_,hz=>by rw [Raw.scopes];exact hz
 | a :: r,z,hu,h,hz=>by
  rw [Raw.objs,Bool.and_eq_true] at h
  have:=scope_range a h.1
  rw [Raw.scopes]
  exact scopes_range u r _ hu h.2 (by omega)
end
mutual
theorem scope_inS {n:Nat}:∀ (t:Raw) (d:Nat),t.scope≤(n:Int)+(d:Int)→t.inS n d
 | .node k nm p ts,d,h=>by
  rw [Raw.scope] at h
  have h2:=scopes_inS (n:=n) (if k=3 then 1 else 0) ts d _ h
  rw [Raw.inS]
  refine ⟨fun e=>?_,?_⟩
  ·have:=h2.1
   rw [if_pos e] at this
   omega
  have:=h2.2
  by_cases e:k=3
  ·simp only [e,if_true] at this ⊢;exact this 1 rfl
  simp only [e,if_false] at this ⊢;exact this 0 rfl
theorem scopes_inS {n:Nat} (u:Int):∀ (ts:List Raw) (d:Nat) (z:Int),Raw.scopes u ts z≤(n:Int)+(d:Int)→z≤(n:Int)+(d:Int)∧∀v:Nat,u=(v:Int)→Raw.inSs n ts (d+v)
 | [],d,z,h=>by
  rw [Raw.scopes] at h
  exact ⟨h,fun v _=>by rw [Raw.inSs];trivial⟩
 | a :: r,d,z,h=>by
  rw [Raw.scopes] at h
  have h2:=scopes_inS u r d _ h
  refine ⟨by have:=h2.1;omega,fun v hv=>?_⟩
  rw [Raw.inSs]
  exact ⟨scope_inS a (d+v) (by have:=h2.1;omega),h2.2 v hv⟩
end
end Lfc
namespace Go.Proofs.YtadjpadieljjlaaGreat
open Go.RowKit Go.Maps
attribute [local go_sem ↓] Go.wp_at_zero Go.wp_at_succ
theorem sScopeO (m:Nat) (hmm:m≤1000000):∀ (t:Lfc.Raw) (v:Value) (w:World),t.size≤m→t.obj=true→TreeV w t v →
  Calls Tryz.prog 48 #[v] w fun e w'=>e=.returned (.int .i64 t.scope)∧Below w.heap.size w w':=by
 induction m with
 | zero=>intro t v w h _;have:=t.size_pos;omega
 | succ m ih0 =>
  intro t v w hm hob hv
  obtain ⟨sc,hsc⟩:∃sc,t.scope=sc:=⟨_,rfl⟩
  rw [hsc]
  obtain ⟨kd,nm,ps,ts⟩:=t
  obtain ⟨A,c,rfl,hc,hA⟩:=hv.open_
  simp only [Lfc.Raw.size] at hm
  have hlen:=Lfc.Raw.sizes_len ts
  have IH:=zH (ih0 (by omega))
  obtain ⟨hos,hcs⟩:=Lfc.obj_cases hob
  have OBS:=zH (Lfc.objs_at ts hos)
  obtain ⟨w0,hw0⟩:∃w0,w.alloc (.cells #[.int .i64 kd,S nm,.int .i64 ps,.slice A ts.length c] 51)=w0:=⟨_,rfl⟩
  have b0:=zG hw0
  have q0:=zQ hw0
  have s0:=zL q0
  obtain ⟨x0,x1,x2,x3⟩:=cells4t q0
  have HA:=zH (hA.below b0)
  have B0':=zH b0
  have Q0:=zH q0
  have HW0:=zH hw0
  have HK2:Hid (kd≠2):=zH (by rcases hcs with ⟨rfl,_⟩ | ⟨rfl,_⟩ | ⟨rfl,_⟩ | ⟨rfl,_⟩ <;> decide)
  obtain ⟨u,hu,hu1⟩:∃u:Int,(((if kd=3 then 1 else 0):Nat):Int)=u∧(if kd=3 then (1:Int) else 0)=u:=⟨_,rfl,by split <;> rfl⟩
  have hu01:0≤u∧u≤1:=by rw [←hu1];split <;> omega
  have HU:=zH hu
  rw [Lfc.Raw.scope,hu1] at hsc
  by_cases hk5:kd=5
  ·subst hk5
   have hp:0≤ps∧ps≤1048576:=by rcases hcs with ⟨e,_⟩ | ⟨e,_⟩ | ⟨_,_,h1,h2⟩ | ⟨e,_⟩ <;> first | exact ⟨h1,h2⟩ | exact absurd e (by decide)
   rw [if_pos rfl] at hsc
   have HSC0:Hid (Lfc.Raw.scopes u (ts.drop 0) (ps+1)=sc):=zH hsc
   have hwp:IntKind.i64.wrap (ps+1)=ps+1:=IntWalk.i64_in _ (by omega)
   clear ih0 hA hv hob hos hcs b0 q0 hsc hu hu1
   go_enter Tryz.func48,Tryz.ntmps48
   go_wp2_with fail
   go_loopw [3,4] (fun n i wr=>∃ (k:Nat) (z:Int),k≤ts.length∧i=.int .i64 k∧n=.int .i64 z∧0≤z∧z≤1048577∧Lfc.Raw.scopes u (ts.drop k) z=sc∧Below w0.heap.size w0 wr) (fun _ i _=>ts.length-(intOf i).toNat)
   case atStart=>exact ⟨0,_,by omega,rfl,rfl,by omega,by omega,HSC0.out,by first | exact zB _ _ | (rw [HW0.out];exact zB _ _)⟩
   clear hw0 x0 x1 x2 x3
   obtain ⟨k,z,hk,rfl,rfl,hz0,hz1,hsc,hbw⟩:=hrel
   obtain ⟨x0,x1,x2,x3⟩:=cells4t ((hbw.block _ s0).trans Q0.out)
   have hsr:=hbw.size
   by_cases hlt:k<ts.length
   ·have hmem:=Lfc.Raw.sizes_mem ts ts[k] (List.getElem_mem _)
    have hob:=OBS.out k hlt
    have hdr:=Lfc.scopes_drop u ts k z hlt
    rw [hsc] at hdr
    have hrg:=Lfc.scope_range ts[k] hob
    obtain ⟨b,o,k1,n1,p1,us,B,c1,rfl,hb,ht,d0,d1,d2,d3,hcu,hB,hT⟩:=(HA.out.below hbw).at_ hlt
    have HOB:=zH hob
    have HSZ:Hid (ts[k].size≤m):=zH (by omega)
    have HT:=zH hT
    obtain ⟨za,hza⟩:∃za,ts[k].scope=za:=⟨_,rfl⟩
    have HZA:=zH hza
    rw [hza] at hdr hrg
    have HTK:Hid (Lfc.Raw.scopes u (ts.drop (k+1)) (max z (za-u))=sc):=zH hdr.symm
    have SC:Hid (∀W,Below wr.heap.size wr W→((W.cell? ⟨w.heap.size,0,none⟩=some (.int .i64 5)∧W.cell? ⟨w.heap.size,1,none⟩=some (S nm)∧W.cell? ⟨w.heap.size,2,none⟩=some (.int .i64 ps)∧W.cell? ⟨w.heap.size,3,none⟩=some (.slice (some ⟨b,o,none⟩) ts.length c))∧(W.cell? ⟨b,o+k*4,none⟩=some (.int .i64 k1)∧W.cell? ⟨b,o+k*4+1,none⟩=some (S n1)∧W.cell? ⟨b,o+k*4+2,none⟩=some (.int .i64 p1)∧W.cell? ⟨b,o+k*4+3,none⟩=some (.slice B us.length c1)))):=zH (fun W hW=>⟨cells4t ((hW.block _ (Nat.lt_of_lt_of_le s0 hsr)).trans ((hbw.block _ s0).trans Q0.out)),by
     have hc:=fun j=>hW.cell (p:=⟨b,j,none⟩) (by have:=hb;show b<wr.heap.size;omega)
     exact ⟨(hc _).trans d0,(hc _).trans d1,(hc _).trans d2,(hc _).trans d3⟩⟩)
    have B0:Below wr.heap.size wr wr.drew:=(zB _ _).drew
    have hwr:IntKind.i64.wrap (za-u)=za-u:=IntWalk.i64_in _ (by omega)
    have hi0:(0:Int)≤(k:Int):=Int.natCast_nonneg _
    have hi1:(k:Int)<(ts.length:Int):=by omega
    have HBW:=zH hbw
    clear hB ht hT hob hza hdr hsc d0 d1 d2 d3 hbw
    go_upto_region 7 with fail
    clear x0 x1 x2 x3
    refine wp_region_held_drew (S:=fun W=>((W.cell? ⟨w.heap.size,0,none⟩=some (.int .i64 5)∧W.cell? ⟨w.heap.size,1,none⟩=some (S nm)∧W.cell? ⟨w.heap.size,2,none⟩=some (.int .i64 ps)∧W.cell? ⟨w.heap.size,3,none⟩=some (.slice (some ⟨b,o,none⟩) ts.length c))∧(W.cell? ⟨b,o+k*4,none⟩=some (.int .i64 k1)∧W.cell? ⟨b,o+k*4+1,none⟩=some (S n1)∧W.cell? ⟨b,o+k*4+2,none⟩=some (.int .i64 p1)∧W.cell? ⟨b,o+k*4+3,none⟩=some (.slice B us.length c1)))) (by kernel_rfl) ?_ (fun hHeld=>?_)
    ·exact SC.out _ B0
    refine tk 0 ?_
    refine tk 1 ?_
    refine tk 2 ?_
    refine tk 3 ?_
    refine tk 4 ?_
    refine tk 5 ?_
    refine tk 7 ?_
    refine tk 8 ?_
    refine rd1 6 (fun K hK=>?_)
    go_simp
    go_at_call 48
    refine (IH.out _ _ _ HSZ.out HOB.out (HT.out.below B0)).mono ?_
    rintro e w8 ⟨rfl,nb8⟩
    have B1:=B0.trans (nb8.mono B0.size)
    rw [HZA.out]
    refine hK.out _ _ (SC.out _ B1) (fun hHeld=>nrm ?_)
    clear hK K
    refine rd1 9 (fun K hK=>?_)
    go_simp
    go_at_call 76
    refine (sUnderX_any _ _ _ _ _ _ _ _ HK2.out).mono ?_
    rintro e w9 ⟨rfl,nb9⟩
    have B2:=B1.trans (nb9.mono B1.size)
    rw [HU.out]
    refine hK.out _ _ (SC.out _ B2) (fun hHeld=>nrm ?_)
    clear hK K
    refine tk 10 ?_
    refine tk 11 ?_
    refine tk 12 ?_
    refine wpAnyH_done (by kernel_rfl) ?_ _
    go_wp2_with fail
    go_roundw
    case rel=>exact ⟨k+1,_,by omega,by go_num,rfl,by omega,by omega,HTK.out,HBW.out.trans (B2.mono hsr)⟩
    case measure=>simp [intOf];omega
   have hkl:k=ts.length:=by omega
   have hfin:z=sc:=by rw [hkl,List.drop_length,Lfc.Raw.scopes] at hsc;exact hsc
   go_wp2_with fail
   go_ret
   exact ⟨ret_int hfin,B0'.out.trans (hbw.mono (Nat.le_of_lt s0))⟩
  have hk5f:(kd == 5)=false:=by simpa using hk5
  rw [if_neg hk5] at hsc
  have HSC0:Hid (Lfc.Raw.scopes u (ts.drop 0) 0=sc):=zH hsc
  clear ih0 hA hv hob hos hcs b0 q0 hsc hu hu1 hk5
  go_enter Tryz.func48,Tryz.ntmps48
  go_wp2_with fail
  go_loopw [3,4] (fun n i wr=>∃ (k:Nat) (z:Int),k≤ts.length∧i=.int .i64 k∧n=.int .i64 z∧0≤z∧z≤1048577∧Lfc.Raw.scopes u (ts.drop k) z=sc∧Below w0.heap.size w0 wr) (fun _ i _=>ts.length-(intOf i).toNat)
  case atStart=>exact ⟨0,_,by omega,rfl,rfl,by omega,by omega,HSC0.out,by first | exact zB _ _ | (rw [HW0.out];exact zB _ _)⟩
  clear hw0 x0 x1 x2 x3
  obtain ⟨k,z,hk,rfl,rfl,hz0,hz1,hsc,hbw⟩:=hrel
  obtain ⟨x0,x1,x2,x3⟩:=cells4t ((hbw.block _ s0).trans Q0.out)
  have hsr:=hbw.size
  by_cases hlt:k<ts.length
  ·have hmem:=Lfc.Raw.sizes_mem ts ts[k] (List.getElem_mem _)
   have hob:=OBS.out k hlt
   have hdr:=Lfc.scopes_drop u ts k z hlt
   rw [hsc] at hdr
   have hrg:=Lfc.scope_range ts[k] hob
   obtain ⟨b,o,k1,n1,p1,us,B,c1,rfl,hb,ht,d0,d1,d2,d3,hcu,hB,hT⟩:=(HA.out.below hbw).at_ hlt
   have HOB:=zH hob
   have HSZ:Hid (ts[k].size≤m):=zH (by omega)
   have HT:=zH hT
   obtain ⟨za,hza⟩:∃za,ts[k].scope=za:=⟨_,rfl⟩
   have HZA:=zH hza
   rw [hza] at hdr hrg
   have HTK:Hid (Lfc.Raw.scopes u (ts.drop (k+1)) (max z (za-u))=sc):=zH hdr.symm
   have SC:Hid (∀W,Below wr.heap.size wr W→((W.cell? ⟨w.heap.size,0,none⟩=some (.int .i64 kd)∧W.cell? ⟨w.heap.size,1,none⟩=some (S nm)∧W.cell? ⟨w.heap.size,2,none⟩=some (.int .i64 ps)∧W.cell? ⟨w.heap.size,3,none⟩=some (.slice (some ⟨b,o,none⟩) ts.length c))∧(W.cell? ⟨b,o+k*4,none⟩=some (.int .i64 k1)∧W.cell? ⟨b,o+k*4+1,none⟩=some (S n1)∧W.cell? ⟨b,o+k*4+2,none⟩=some (.int .i64 p1)∧W.cell? ⟨b,o+k*4+3,none⟩=some (.slice B us.length c1)))):=zH (fun W hW=>⟨cells4t ((hW.block _ (Nat.lt_of_lt_of_le s0 hsr)).trans ((hbw.block _ s0).trans Q0.out)),by
    have hc:=fun j=>hW.cell (p:=⟨b,j,none⟩) (by have:=hb;show b<wr.heap.size;omega)
    exact ⟨(hc _).trans d0,(hc _).trans d1,(hc _).trans d2,(hc _).trans d3⟩⟩)
   have B0:Below wr.heap.size wr wr.drew:=(zB _ _).drew
   have hwr:IntKind.i64.wrap (za-u)=za-u:=IntWalk.i64_in _ (by omega)
   have hi0:(0:Int)≤(k:Int):=Int.natCast_nonneg _
   have hi1:(k:Int)<(ts.length:Int):=by omega
   have HBW:=zH hbw
   clear hB ht hT hob hza hdr hsc d0 d1 d2 d3 hbw
   go_upto_region 7 with fail
   clear x0 x1 x2 x3
   refine wp_region_held_drew (S:=fun W=>((W.cell? ⟨w.heap.size,0,none⟩=some (.int .i64 kd)∧W.cell? ⟨w.heap.size,1,none⟩=some (S nm)∧W.cell? ⟨w.heap.size,2,none⟩=some (.int .i64 ps)∧W.cell? ⟨w.heap.size,3,none⟩=some (.slice (some ⟨b,o,none⟩) ts.length c))∧(W.cell? ⟨b,o+k*4,none⟩=some (.int .i64 k1)∧W.cell? ⟨b,o+k*4+1,none⟩=some (S n1)∧W.cell? ⟨b,o+k*4+2,none⟩=some (.int .i64 p1)∧W.cell? ⟨b,o+k*4+3,none⟩=some (.slice B us.length c1)))) (by kernel_rfl) ?_ (fun hHeld=>?_)
   ·exact SC.out _ B0
   refine tk 0 ?_
   refine tk 1 ?_
   refine tk 2 ?_
   refine tk 3 ?_
   refine tk 4 ?_
   refine tk 5 ?_
   refine tk 7 ?_
   refine tk 8 ?_
   refine rd1 6 (fun K hK=>?_)
   go_simp
   go_at_call 48
   refine (IH.out _ _ _ HSZ.out HOB.out (HT.out.below B0)).mono ?_
   rintro e w8 ⟨rfl,nb8⟩
   have B1:=B0.trans (nb8.mono B0.size)
   rw [HZA.out]
   refine hK.out _ _ (SC.out _ B1) (fun hHeld=>nrm ?_)
   clear hK K
   refine rd1 9 (fun K hK=>?_)
   go_simp
   go_at_call 76
   refine (sUnderX_any _ _ _ _ _ _ _ _ HK2.out).mono ?_
   rintro e w9 ⟨rfl,nb9⟩
   have B2:=B1.trans (nb9.mono B1.size)
   rw [HU.out]
   refine hK.out _ _ (SC.out _ B2) (fun hHeld=>nrm ?_)
   clear hK K
   refine tk 10 ?_
   refine tk 11 ?_
   refine tk 12 ?_
   refine wpAnyH_done (by kernel_rfl) ?_ _
   go_wp2_with fail
   go_roundw
   case rel=>exact ⟨k+1,_,by omega,by go_num,rfl,by omega,by omega,HTK.out,HBW.out.trans (B2.mono hsr)⟩
   case measure=>simp [intOf];omega
  have hkl:k=ts.length:=by omega
  have hfin:z=sc:=by rw [hkl,List.drop_length,Lfc.Raw.scopes] at hsc;exact hsc
  go_wp2_with fail
  go_ret
  exact ⟨ret_int hfin,B0'.out.trans (hbw.mono (Nat.le_of_lt s0))⟩
theorem mScopeO (t:Lfc.Raw) (v:Value) (w:World) (ho:t.isO=true) (hv:TreeV w t v) :
  Calls Tryz.prog 26 #[v] w fun e w'=>e=.returned (.int .i64 t.scope)∧Below w.heap.size w w':=by
 have HV:=zH hv
 have hz:t.size≤1000000:=by
  rw [Lfc.Raw.isO,Bool.and_eq_true,Lfc.Raw.small,Bool.and_eq_true,decide_eq_true_eq] at ho
  omega
 have HO:=zH ho
 have hob:t.obj=true:=by rw [Lfc.Raw.isO,Bool.and_eq_true] at ho;exact ho.1
 obtain ⟨sc,hsc⟩:∃sc,t.scope=sc:=⟨_,rfl⟩
 rw [hsc]
 obtain ⟨kd,nm,ps,ts⟩:=t
 obtain ⟨A,c,rfl,hc,hA⟩:=hv.open_
 obtain ⟨w0,hw0⟩:∃w0,w.alloc (.cells #[.int .i64 kd,S nm,.int .i64 ps,.slice A ts.length c] 51)=w0:=⟨_,rfl⟩
 have b0:=zG hw0
 have q0:=zQ hw0
 have s0:=zL q0
 obtain ⟨x0,x1,x2,x3⟩:=cells4t q0
 have C1:=zH (fun W (hb:Below w0.heap.size w0 W)=>sWfO _ _ W HO.out (HV.out.below (b0.trans (hb.mono b0.size))))
 have C2:=zH (fun W (hb:Below w0.heap.size w0 W)=>sScopeO 1000000 (by omega) _ _ W hz hob (HV.out.below (b0.trans (hb.mono b0.size))))
 rw [hsc] at C2
 have B0:=zH b0
 have Q0:=zH q0
 clear hv hA b0 q0 hz ho hob hsc
 go_enter Tryz.func26,Tryz.ntmps26
 go_wp2_with fail
 refine (C1.out _ (zB _ _)).mono ?_
 rintro e w1 ⟨rfl,hb1⟩
 clear x0 x1 x2 x3 hw0
 obtain ⟨x0,x1,x2,x3⟩:=cells4t ((hb1.block _ s0).trans Q0.out)
 have HB1:=zH hb1
 clear hb1
 go_wp2_with fail
 refine (C2.out _ HB1.out).mono ?_
 rintro e w2 ⟨rfl,hb2⟩
 go_wp2_with fail
 go_ret
 exact ⟨rfl,B0.out.trans ((HB1.out.trans (hb2.mono HB1.out.size)).mono B0.out.size)⟩
end Go.Proofs.YtadjpadieljjlaaGreat
