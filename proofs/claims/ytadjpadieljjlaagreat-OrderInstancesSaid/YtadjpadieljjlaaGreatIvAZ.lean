/- Parts of the proof that no input makes the law false: OiZ, OiN. -/
import Derived.Test.YtadjpadieljjlaaGreatIvAY
set_option linter.unusedVariables false
set_option linter.unusedSimpArgs false
set_option maxRecDepth 100000
set_option maxHeartbeats 32000000
namespace Lfc
theorem sbRs_snoc {vs:List Raw} {a b:Raw}:∀ {xs ys:List Raw} {d:Nat},sbRs vs xs ys d→sbR vs a b d→sbRs vs (xs++[a]) (ys++[b]) d
 | [],ys,d,h,hb=>by
  rw [sbRs] at h
  subst h
  rw [List.nil_append,List.nil_append,sbRs]
  exact ⟨b,[],rfl,hb,by rw [sbRs]⟩
 | x :: r,ys,d,h,hb=>by
  rw [sbRs] at h
  obtain ⟨y,q,rfl,h1,h2⟩:=h
  rw [List.cons_append,List.cons_append,sbRs]
  exact ⟨y,q++[b],rfl,h1,sbRs_snoc h2 hb⟩
theorem inSs_at {n:Nat}:∀ (ts:List Raw) (d:Nat),Raw.inSs n ts d→∀k (h:k<ts.length),ts[k].inS n d
 | [],_,_,k,h=>by cases h
 | a :: r,d,h,k,hk=>by
  rw [Raw.inSs] at h
  cases k with
  | zero=>exact h.1
  | succ k=>exact inSs_at r d h.2 k (by simpa using hk)
end Lfc
namespace Go.Proofs.YtadjpadieljjlaaGreat
open Go.RowKit Go.Maps
attribute [local go_sem ↓] Go.wp_at_zero Go.wp_at_succ
def SimsG (g:Nat) (w:World) (B:Option Addr) (n:Nat):Prop:=0<n→∃b o,B=some ⟨b,o,none⟩∧b<w.heap.size∧b≠g∧∀k,k<n→w.cell? ⟨b,o+k*2,none⟩=some (S [105])∧w.cell? ⟨b,o+k*2+1,none⟩=some (.slice none 0 0)
theorem SimsG.oth {g:Nat} {w w':World} {B:Option Addr} {n:Nat} (h:SimsG g w B n) (ho:Oth g w w'):SimsG g w' B n:=fun hn=>by
 obtain ⟨b,o,hB,hlt,hne,hc⟩:=h hn
 exact ⟨b,o,hB,Nat.lt_of_lt_of_le hlt ho.size,hne,fun k hk=>⟨(ho.cell (p:=⟨b,o+k*2,none⟩) hlt hne).trans (hc k hk).1,(ho.cell (p:=⟨b,o+k*2+1,none⟩) hlt hne).trans (hc k hk).2⟩⟩
theorem agg4_inj {k p:Int} {n:List UInt8} {A A':Option Addr} {l c c':Nat} (h:Value.agg #[.int .i64 k,S n,.int .i64 p,.slice A l c]=.agg #[.int .i64 k,S n,.int .i64 p,.slice A' l c']):A=A'∧c=c':=by
 injection h with h
 simp at h
 exact h
structure SbG (wa:World) (g R base:Nat) (k:Int) (nm:List UInt8) (p:Int) (ts:List Lfc.Raw) (A:Option Addr) (c:Nat) (xs:List Value) (wr:World):Prop where
 r:wr.heap[R]?=some (.cells #[.int .i64 k,S nm,.int .i64 p,.slice A ts.length c] 51 (0,0))
 own:wr.ownsRow base 51 4 (.slice A ts.length c) ts.length xs
 row:RowP (fun b=>base≤b∧some b≠(Value.slice A ts.length c).ownBlock) wr ts xs
 oth:Oth g wa wr
 size:base≤wr.heap.size
theorem SbG.step {wa wr w9 w10:World} {g R base:Nat} {k p k9 p9:Int} {nm n9:List UInt8} {ts ts9:List Lfc.Raw} {A A9:Option Addr} {c c9:Nat} {xs:List Value} {v':Value} (h:SbG wa g R base k nm p ts A c xs wr) (hgR:g<R) (hRb:R<base) (hwa:wa.heap.size≤R)
  (o9:Oth g wr w9) (hp9:TreeP (fun b=>wr.heap.size≤b) w9 (.node k9 n9 p9 ts9) (.int .i64 k9) (S n9) (.int .i64 p9) (.slice A9 ts9.length c9))
  (hown':w10.ownsRow base 51 4 v' (ts.length+1) (xs++[.int .i64 k9,S n9,.int .i64 p9,.slice A9 ts9.length c9]))
  (hg:(w9.alloc (.cells #[.int .i64 k9,S n9,.int .i64 p9,.slice A9 ts9.length c9] 51)).grownBy w10 (Value.slice A ts.length c).ownBlock) (hloc:v'.ownBlock=(Value.slice A ts.length c).ownBlock∨v'.ownBlock=some (w9.heap.size+1)) :
  w10.heap[R]?=some (.cells #[.int .i64 k,S nm,.int .i64 p,.slice A ts.length c] 51 (0,0))∧Oth g wa w10∧w10.heap[g]?=w9.heap[g]? ∧
  (∀A10 c10,v'=.slice A10 (ts.length+1) c10→SbG wa g R base k nm p (ts++[.node k9 n9 p9 ts9]) A10 c10 (xs++[.int .i64 k9,S n9,.int .i64 p9,.slice A9 ts9.length c9]) (w10.setCell ⟨R,3,none⟩ v')∧(w10.setCell ⟨R,3,none⟩ v').heap[g]?=w9.heap[g]?):=by
 have o9d:Oth g wr.drew w9:=⟨o9.os,o9.tape,o9.output,o9.size,fun j hj hn=>o9.block j hj hn⟩
 have hsz:=h.size
 have hso:=h.oth.size
 have hs9:=o9.size
 have hown_lt:∀b,(Value.slice A ts.length c).ownBlock=some b→base≤b∧b<wr.heap.size:=fun b e=>h.own.lt b e
 have hs10:w9.heap.size+1≤w10.heap.size:=by have:=hg.size;simpa using this
 obtain ⟨f0,f1,f2,f3,f4,f5,f6,f7⟩:=trm_final hRb hgR h.size hwa h.r h.own h.row h.oth o9d hp9 hown' hg hloc
 refine ⟨f0,⟨hg.os.trans (o9.os.trans h.oth.os),hg.tape.trans (o9.tape.trans h.oth.tape),hg.output.trans (o9.output.trans h.oth.output),by omega,fun b hb hn=>?_⟩,?_,?_⟩
 ·rw [hg.block b (by simp;omega) (fun e=>by have:=(hown_lt b e.symm).1;omega),zA _ _ _ (by omega),o9.block b (by omega) hn]
  exact h.oth.block b hb hn
 ·rw [hg.block g (by simp;omega) (fun e=>by have:=(hown_lt g e.symm).1;omega),zA _ _ _ (by omega)]
 rintro A10 c10 rfl
 have el:(ts++[Lfc.Raw.node k9 n9 p9 ts9]).length=ts.length+1:=by rw [List.length_append];rfl
 exact ⟨⟨by rw [el];exact f1,by rw [el];rw [el] at f2;exact f2,by rw [el];exact f3,f4,f5⟩,f7⟩
theorem SbG.start {wa wr:World} {g R:Nat} {k p:Int} {nm:List UInt8} (hq:wr.heap[R]?=some (.cells #[.int .i64 k,S nm,.int .i64 p,.slice none 0 0] 51 (0,0))) (ho:Oth g wa wr):SbG wa g R (R+1) k nm p [] none 0 [] wr :=
 ⟨hq,⟨by simp,.inl ⟨rfl,rfl⟩⟩,by rw [RowP],ho,zL hq⟩
theorem mac_oth {G:Nat} {wr s1 s2 s3 s4:World} {v0 v1 v2 v3:Value} {P:Prop} (_:P) (h1:wr.setCell ⟨G,0,none⟩ v0=s1) (h2:s1.setCell ⟨G,1,none⟩ v1=s2) (h3:s2.setCell ⟨G,2,none⟩ v2=s3) (h4:s3.setCell ⟨G,3,none⟩ v3=s4) (b:Nat) (hb:b≠G):s4.heap[b]?=wr.heap[b]?:=by
 rw [←h4,Below.heap_setCell _ _ _ _ hb,←h3,Below.heap_setCell _ _ _ _ hb,←h2,Below.heap_setCell _ _ _ _ hb,←h1,Below.heap_setCell _ _ _ _ hb]
theorem mSubst_upto (ks:List Int) (vs:List Lfc.Raw) (V:Lfc.Vals ks vs) (hvn:vs.length≤1000) (Am Bs:Option Addr) (cm cs g:Nat) (m:Nat):∀ (t:Lfc.Raw) (v:Value) (d:Nat) (wk:Int) (w:World),t.size≤m→t.size≤1000→t.obj=true→t.inS vs.length d→d+t.size≤10000→w.heap[g]?=some (.cells #[.int .i64 wk,.int .i64 0] 107 (0,0))→(0≤wk∧wk≤262144)→TreeVP (fun b=>b≠g) w t v→TreesAtP (fun b=>b≠g) w Am vs→SimsG g w Bs vs.length →
  Calls Tryz.prog 52 #[.pointer (some ⟨g,0,none⟩),v,.slice Am vs.length cm,.slice Bs vs.length cs,.int .i64 (d:Int)] w (MacAns w g (fun b=>w.heap.size≤b) (fun x=>Lfc.sbR vs t x d)):=by
 induction m with
 | zero=>intro t v d wk w h;have:=t.size_pos;omega
 | succ m ih0 =>
  intro t v d wk w hm hz hob hin hdt hgm hwk hv hms hss
  obtain ⟨kd,nm,ps,ts⟩:=t
  have lg:=zL hgm
  obtain ⟨hos,hcs⟩:=Lfc.obj_cases hob
  obtain ⟨A0,c0,rfl,hP⟩:=hv.openT
  rw [TreeP] at hP
  obtain ⟨_,_,hnl,_,A0',c0',e0,hc0,hTS⟩:=hP
  obtain ⟨rfl,_,rfl⟩:A0=A0'∧True∧c0=c0':=by injection e0 with e1 e2 e3;exact ⟨e1,trivial,e3⟩
  rw [Lfc.Raw.size] at hm hz hdt
  rw [Lfc.Raw.inS] at hin
  have hlen:=Lfc.Raw.sizes_len ts
  have IH:=zH ih0
  have OBS:=zH (Lfc.objs_at ts hos)
  have INS:=zH hin
  have HK2:Hid (kd≠2):=zH (by rcases hcs with ⟨rfl,_⟩ | ⟨rfl,_⟩ | ⟨rfl,_⟩ | ⟨rfl,_⟩ <;> decide)
  obtain ⟨w1,hw1⟩:∃w1,w.alloc (.cells #[.int .i64 kd,S nm,.int .i64 ps,.slice A0 ts.length c0] 51)=w1:=⟨_,rfl⟩
  obtain ⟨w2,hw2⟩:∃w2,w1.alloc (.cells #[.int .i64 0,S [],.int .i64 0,.slice none 0 0] 51)=w2:=⟨_,rfl⟩
  obtain ⟨w3,hw3⟩:∃w3,w2.setCell ⟨g,0,none⟩ (.int .i64 (wk+1))=w3:=⟨_,rfl⟩
  obtain ⟨w4,hw4⟩:∃w4,w3.alloc (.cells #[.int .i64 kd,S nm,.int .i64 ps,.slice none 0 0] 51)=w4:=⟨_,rfl⟩
  have b1:=zG hw1
  have b2:=zG hw2
  have q1:=zQ hw1
  have q2:=zQ hw2
  have l1:=zL q1
  have l2:=zL q2
  have b12:Below w.heap.size w w2:=b1.trans (b2.mono (by omega))
  have g2:=(b12.block _ lg).trans hgm
  have o3:Oth g w2 w3:=by rw [←hw3];exact Oth.set _ _
  have g3:w3.heap[g]?=some (.cells #[.int .i64 (wk+1),.int .i64 0] 107 (0,0)):=by rw [←hw3];exact mac_set0 g2 _
  have ow3:Oth g w w3:=(Oth.of_below b12).trans o3
  have qb3:w3.heap[w.heap.size]?=some (.cells #[.int .i64 kd,S nm,.int .i64 ps,.slice A0 ts.length c0] 51 (0,0)):=o3.heap ((b2.block _ l1).trans q1) (by omega)
  have qz3:=o3.heap q2 (by omega)
  have hs3:=o3.size
  have b4:=zG hw4
  have q4:=zQ hw4
  have QB:=zH qb3
  have QZ3:=zH qz3
  have G2:=zH g2
  have G3:=zH g3
  have OW:=zH ow3
  have HW3:=zH hw3
  have HW4:=zH hw4
  have HMS:Hid (∀W,Oth g w3 W→TreesAtP (fun b=>b≠g) W Am vs):=zH (fun W hW=>hms.keep (fun b hb hlt=>(ow3.trans hW).block b hlt (fun e=>hb (zO e))) (ow3.trans hW).size (fun _ _ h=>h))
  have HSS:=zH (hss.oth ow3)
  have HSW:=zH hss
  have HTS:Hid (∀W,Oth g w3 W→TreesAtP (fun b=>b≠g) W A0 ts):=zH (fun W hW=>(show TreesAtP (fun b=>b≠g) w A0 ts from hTS).keep (fun b hb hlt=>(ow3.trans hW).block b hlt (fun e=>hb (zO e))) (ow3.trans hW).size (fun _ _ h=>h))
  have G4:Hid (w4.heap[g]?=some (.cells #[.int .i64 (wk+1),.int .i64 0] 107 (0,0))):=zH ((b4.block _ (by omega)).trans g3)
  obtain ⟨uu,huu⟩:∃uu:Nat,(if kd=3 then 1 else 0)=uu:=⟨_,rfl⟩
  have hu1:uu≤1:=by rw [←huu];split <;> omega
  have hdd:(if kd=3 then d+1 else d)=d+uu:=by rw [←huu];split <;> omega
  have HU:=zH huu
  have HDD:=zH hdd
  have I0:Hid (SbG w3 g w3.heap.size (w3.heap.size+1) kd nm ps [] none 0 [] w4):=zH (SbG.start q4 (Oth.of_below b4))
  have hwr:IntKind.i64.wrap (wk+1)=wk+1:=IntWalk.i64_in _ (by omega)
  have hwd:IntKind.i64.wrap ((d:Int)+(uu:Int))=((d+uu:Nat):Int):=by rw [IntWalk.i64_in _ (by omega)];omega
  obtain ⟨x0,x1,x2,x3⟩:=cells4t ((b2.block _ l1).trans q1)
  obtain ⟨m0,m1⟩:=cells2m g2
  have fg:=zF g2 0
  clear ih0 hv e0 hTS hob hos hcs hin hgm hms hss b1 b2 q1 q2 b12 g2 o3 g3 ow3 qb3 qz3 b4 q4 hw3 hw4 huu hdd
  go_enter Tryz.func52,Tryz.ntmps52
  go_upto_region 1 with fail
  clear hw1 hw2
  go_upto_region 4 with fail
  rw [HW3.out]
  clear HW3 x0 x1 x2 x3 m0 m1 fg
  obtain ⟨m0,m1⟩:=cells2m G3.out
  by_cases hbig:wk=262144
  ·have hgt:decide (wk+1>262144)=true:=by rw [decide_eq_true_eq];omega
   have hgt2:decide (262144<wk+1)=true:=by rw [decide_eq_true_eq];omega
   have hgt3:262144<wk+1:=by omega
   obtain ⟨w5,hw5⟩:∃w5,w3.setCell ⟨g,1,none⟩ (.int .i64 2)=w5:=⟨_,rfl⟩
   have o5:Oth g w3 w5:=by rw [←hw5];exact Oth.set _ _
   have g5:w5.heap[g]?=some (.cells #[.int .i64 (wk+1),.int .i64 2] 107 (0,0)):=by rw [←hw5];exact mac_set G3.out _
   have fg:=zF G3.out 1
   obtain ⟨s1,s2,s3,s4,g1,g2,g3,g4,⟨p0,p1',p2,p3⟩,⟨f0,f1,f2,f3⟩,hq,HZ⟩:=mac_zero (w:=w) (q:=fun b=>w.heap.size≤b) (r:=fun x=>Lfc.sbR vs (.node kd nm ps ts) x d) (by omega) (by omega) (OW.out.trans o5) g5 (by decide) (o5.heap QZ3.out (by omega))
   clear o5 g5 hbig
   have HQ:=zH hq
   clear hq
   go_wp2_with fail
   refine bodyPost_ret (results_term rfl _ _ _ _ _ _ _ rfl HQ.out) rfl ?_
   exact HZ.out
  have hgt:decide (wk+1>262144)=false:=by rw [decide_eq_false_iff_not];omega
  have hgt2:decide (262144<wk+1)=false:=by rw [decide_eq_false_iff_not];omega
  have hgt3:¬ 262144<wk+1:=by omega
  have hwk1:0≤wk+1∧wk+1≤262144:=by omega
  obtain ⟨x0,x1,x2,x3⟩:=cells4t QB.out
  go_upto_region 8 with fail
  rw [HW4.out]
  clear HW4 x0 x1 x2 x3 m0 m1 hgt hgt2 hgt3 hbig hwr
  go_wp2_with fail
  go_loopw [12] (fun i wr=>∃ (k:Nat) (A:Option Addr) (c:Nat) (ys:List Lfc.Raw) (xs:List Value) (wk' er':Int),k≤ts.length∧i=.int .i64 k∧Hid (SbG w3 g w3.heap.size (w3.heap.size+1) kd nm ps ys A c xs wr)∧Hid (wr.heap[g]?=some (.cells #[.int .i64 wk',.int .i64 er'] 107 (0,0)))∧Hid (ys.length=k∧(er'=0→(0≤wk'∧wk'≤262144)∧Lfc.sbRs vs (ts.take k) ys (d+uu)))) (fun i _=>ts.length-(intOf i).toNat)
  case atStart=>exact ⟨0,none,0,[],[],wk+1,0,Nat.zero_le _,rfl,I0,G4,zH ⟨rfl,fun _=>⟨hwk1,by rw [List.take_zero,Lfc.sbRs]⟩⟩⟩
  clear I0 G4 hwk1
  obtain ⟨k,A,c,ys,xs,wk',er',hk,rfl,HS,HMG,HY⟩:=hrel
  have hol:=HY.out.1
  have lR:=zL HS.out.r
  have hsz:=HS.out.size
  have hos:=HS.out.oth.size
  obtain ⟨x0,x1,x2,x3⟩:=cells4t (HS.out.oth.heap QB.out (by omega))
  obtain ⟨m0,m1⟩:=cells2m HMG.out
  by_cases her:er'=0
  ·subst her
   have HWK:=zH (HY.out.2 rfl).1
   have HYS:=zH (HY.out.2 rfl).2
   by_cases hlt:k<ts.length
   ·have hTS:=HTS.out wr HS.out.oth
    obtain ⟨b,o,k1,n1,p1,us,B,c1,rfl,hb,hbg,ht,d0,d1,d2,d3,hT⟩:=hTS.at_ hlt
    have HTK:Hid (ts.take (k+1)=ts.take k++[.node k1 n1 p1 us]):=zH (by rw [List.take_succ_eq_append_getElem hlt,ht])
    have hmem:=Lfc.Raw.sizes_mem ts ts[k] (List.getElem_mem _)
    have hob:=OBS.out k hlt
    have hin:=Lfc.inSs_at ts _ INS.out.2 k hlt
    rw [HDD.out] at hin
    rw [ht] at hmem hob hin
    have HOB:=zH hob
    have HIN:=zH hin
    have HSZ:Hid ((Lfc.Raw.node k1 n1 p1 us).size≤m∧(Lfc.Raw.node k1 n1 p1 us).size≤1000∧(d+uu)+(Lfc.Raw.node k1 n1 p1 us).size≤10000):=zH (by omega)
    have HT:=zH hT
    have hb3:b<w3.heap.size:=by
     obtain ⟨b',o',e,hlt',_⟩:=(HTS.out w3 (Oth.refl _ _)) (by intro h0;rw [h0] at hlt;simp at hlt)
     injection e with e
     injection e with e _ _
     omega
    have SC:Hid (∀W,Oth g w3 W→((W.cell? ⟨w.heap.size,0,none⟩=some (.int .i64 kd)∧W.cell? ⟨w.heap.size,1,none⟩=some (S nm)∧W.cell? ⟨w.heap.size,2,none⟩=some (.int .i64 ps)∧W.cell? ⟨w.heap.size,3,none⟩=some (.slice (some ⟨b,o,none⟩) ts.length c0))∧(W.cell? ⟨b,o+k*4,none⟩=some (.int .i64 k1)∧W.cell? ⟨b,o+k*4+1,none⟩=some (S n1)∧W.cell? ⟨b,o+k*4+2,none⟩=some (.int .i64 p1)∧W.cell? ⟨b,o+k*4+3,none⟩=some (.slice B us.length c1)))):=zH (fun W hW=>⟨cells4t (hW.heap QB.out (by omega)),by
     have hc:∀j,W.cell? ⟨b,j,none⟩=wr.cell? ⟨b,j,none⟩:=fun j=>(hW.cell (p:=⟨b,j,none⟩) hb3 hbg).trans (HS.out.oth.cell (p:=⟨b,j,none⟩) hb3 hbg).symm
     exact ⟨(hc _).trans d0,(hc _).trans d1,(hc _).trans d2,(hc _).trans d3⟩⟩)
    have hr:=HS.out.r
    have how:=HS.out.own
    rw [hol] at hr how
    have HR:=zH hr
    have HOWN:=zH how
    have hTg:(Value.slice A k c).ownBlock=some g→False:=fun e=>by have:=(how.lt _ e).1;omega
    have hRg:some w3.heap.size≠some g:=fun e=>by have:=zO e;omega
    have hlm:k+1≤maxLen:=by unfold maxLen;omega
    have hl56:(k+1)*56≤140737488355328:=by omega
    have hi0:(0:Int)≤(k:Int):=Int.natCast_nonneg _
    have hi1:(k:Int)<(ts.length:Int):=by omega
    have O0:Oth g wr wr.drew:=(Oth.refl _ _).drew
    have MG:wr.drew.heap[g]?=some (.cells #[.int .i64 wk',.int .i64 0] 107 (0,0)):=HMG.out
    clear hr how hob hin ht hT hTS d0 d1 d2 d3 HY
    go_upto_region 11 with fail
    clear x0 x1 x2 x3 m0 m1
    refine wp_region_held_drew (S:=fun W=>((W.cell? ⟨w.heap.size,0,none⟩=some (.int .i64 kd)∧W.cell? ⟨w.heap.size,1,none⟩=some (S nm)∧W.cell? ⟨w.heap.size,2,none⟩=some (.int .i64 ps)∧W.cell? ⟨w.heap.size,3,none⟩=some (.slice (some ⟨b,o,none⟩) ts.length c0))∧(W.cell? ⟨b,o+k*4,none⟩=some (.int .i64 k1)∧W.cell? ⟨b,o+k*4+1,none⟩=some (S n1)∧W.cell? ⟨b,o+k*4+2,none⟩=some (.int .i64 p1)∧W.cell? ⟨b,o+k*4+3,none⟩=some (.slice B us.length c1)))) (by kernel_rfl) ?_ (fun hHeld=>?_)
    ·exact SC.out _ (HS.out.oth.trans O0)
    obtain ⟨wz,hwz⟩:∃wz,wr.drew=wz:=⟨_,rfl⟩
    rw [hwz] at O0 MG hHeld ⊢
    clear hwz
    refine tk 0 ?_
    refine tk 2 ?_
    refine tk 3 ?_
    refine tk 4 ?_
    refine tk 5 ?_
    refine tk 6 ?_
    refine tk 7 ?_
    refine tk 8 ?_
    refine tk 9 ?_
    refine tk 10 ?_
    refine tk 11 ?_
    refine tk 12 ?_
    refine rd2 1 13 (fun K hK=>?_) (fun K hK=>?_)
    ·have z3:wz.cell? ⟨w3.heap.size,3,none⟩=some (.slice A k c):=zC ((O0.block _ lR hRg).trans HR.out) 3
     go_simp
     refine hK.out _ _ (SC.out _ (HS.out.oth.trans O0)) (fun hHeld=>nrm ?_)
     clear hK K
     clear z3
     refine rd1 13 (fun K hK=>?_)
     go_simp
     go_at_call 76
     refine (sUnderX_any _ _ _ _ _ _ _ _ HK2.out).mono ?_
     rintro e wA2 ⟨rfl,nb2⟩
     rw [HU.out]
     have O2:=O0.trans (Oth.of_below nb2)
     have MG:=(nb2.block _ (zL MG)).trans MG
     refine hK.out _ _ (SC.out _ (HS.out.oth.trans O2)) (fun hHeld=>nrm ?_)
     clear hK K
     refine tk 14 ?_
     refine rd1 15 (fun K hK=>?_)
     go_simp
     go_at_call 52
     refine (IH.out _ _ (d+uu) wk' wA2 HSZ.out.1 HSZ.out.2.1 HOB.out HIN.out HSZ.out.2.2 MG HWK.out (HT.out.keep (fun b hb hlt=>O2.block b hlt (fun e=>hb (zO e))) O2.size (fun _ _ h=>h)) (HMS.out _ (HS.out.oth.trans O2)) (HSS.out.oth (HS.out.oth.trans O2))).mono ?_
     rintro e wA3 ⟨⟨wk9,er9,k9,n9,p9,xs9,A9,c9,rfl,mg9,hwk9,hv9,hr9⟩,no3⟩
     have O3:=O2.trans no3
     obtain ⟨A9',c9',e9,hp9⟩:=hv9.openT
     obtain ⟨rfl,rfl⟩:=agg4_inj e9
     have HP9:=zH (TreeP.keep (q':=fun b=>wr.heap.size≤b) (fun _ _ _=>rfl) (zN _) (fun b _ hb=>Nat.le_trans O2.size hb) _ _ _ _ _ hp9)
     have HW9:=zH hwk9
     have HR9:=zH hr9
     have MG9:=zH mg9
     clear hv9 hp9 hwk9 hr9 mg9 MG e9
     refine hK.out _ _ (SC.out _ (HS.out.oth.trans O3)) (fun hHeld=>nrm ?_)
     clear hK K
     refine rd1 16 (fun K hK=>?_)
     have O4:=O3.al (.cells #[.int .i64 k9,S n9,.int .i64 p9,.slice A9 xs9.length c9] 51)
     go_simp
     refine hK.out _ _ (SC.out _ (HS.out.oth.trans O4)) (fun hHeld=>nrm ?_)
     clear hK K
     refine rd1 17 (fun K hK=>?_)
     refine apT [.int .i64 k9,S n9,.int .i64 p9,.slice A9 xs9.length c9] (HOWN.out.kept O4 (Or.inr hTg)) (fun j u h=>ocells_new wA3 _ rfl [.int .i64 k9,S n9,.int .i64 p9,.slice A9 xs9.length c9] 51 j u h) oneCellT hlm hl56 (Nat.le_trans HS.out.size O4.size) ?_
     intro A10 c10 w10 hown10 hg10 hloc10
     obtain ⟨q10,o10,mg10,hfin⟩:=SbG.step HS.out (by omega) (by omega) (by omega) O3 HP9.out (by rw [hol];exact hown10) (by rw [hol];exact hg10) (by rw [hol];exact oalloc_loc hloc10)
     have hnx:=hfin A10 c10 (by rw [hol])
     rw [hol] at q10
     refine hK.out _ _ (SC.out _ o10) (fun hHeld=>nrm ?_)
     clear hK K
     refine tk 18 ?_
     refine rd1 19 (fun K hK=>?_)
     have z3:w10.cell? ⟨w3.heap.size,3,none⟩=some (.slice A k c):=zC q10 3
     have f3:=zF q10 3
     have HN:=zH hnx.1
     have HMG:=zH (hnx.2.trans MG9.out)
     clear hfin hown10 hg10 hloc10
     go_simp
     refine hK.out _ _ (SC.out _ hnx.1.oth) (fun hHeld=>nrm ?_)
     clear hK K
     clear z3 f3 q10 hnx
     refine wpAnyH_done (by kernel_rfl) ?_ _
     go_wp2_with fail
     go_roundw
     case rel=>exact ⟨k+1,A10,c10,_,_,wk9,er9,by omega,by go_num,HN,HMG,zH ⟨by rw [List.length_append,hol];rfl,fun h=>⟨HW9.out h,by rw [HTK.out];exact Lfc.sbRs_snoc HYS.out (HR9.out h)⟩⟩⟩
     case measure=>simp [intOf];omega
    go_simp
    go_at_call 76
    refine (sUnderX_any _ _ _ _ _ _ _ _ HK2.out).mono ?_
    rintro e wA1 ⟨rfl,nb1⟩
    rw [HU.out]
    have O1:=O0.trans (Oth.of_below nb1)
    have MG:=(nb1.block _ (zL MG)).trans MG
    refine hK.out _ _ (SC.out _ (HS.out.oth.trans O1)) (fun hHeld=>nrm ?_)
    clear hK K
    refine tk 14 ?_
    refine rd2 1 15 (fun K hK=>?_) (fun K hK=>?_)
    ·have z3:wA1.cell? ⟨w3.heap.size,3,none⟩=some (.slice A k c):=zC ((O1.block _ lR hRg).trans HR.out) 3
     go_simp
     refine hK.out _ _ (SC.out _ (HS.out.oth.trans O1)) (fun hHeld=>nrm ?_)
     clear hK K
     clear z3
     refine rd1 15 (fun K hK=>?_)
     go_simp
     go_at_call 52
     refine (IH.out _ _ (d+uu) wk' wA1 HSZ.out.1 HSZ.out.2.1 HOB.out HIN.out HSZ.out.2.2 MG HWK.out (HT.out.keep (fun b hb hlt=>O1.block b hlt (fun e=>hb (zO e))) O1.size (fun _ _ h=>h)) (HMS.out _ (HS.out.oth.trans O1)) (HSS.out.oth (HS.out.oth.trans O1))).mono ?_
     rintro e wA3 ⟨⟨wk9,er9,k9,n9,p9,xs9,A9,c9,rfl,mg9,hwk9,hv9,hr9⟩,no3⟩
     have O3:=O1.trans no3
     obtain ⟨A9',c9',e9,hp9⟩:=hv9.openT
     obtain ⟨rfl,rfl⟩:=agg4_inj e9
     have HP9:=zH (TreeP.keep (q':=fun b=>wr.heap.size≤b) (fun _ _ _=>rfl) (zN _) (fun b _ hb=>Nat.le_trans O1.size hb) _ _ _ _ _ hp9)
     have HW9:=zH hwk9
     have HR9:=zH hr9
     have MG9:=zH mg9
     clear hv9 hp9 hwk9 hr9 mg9 MG e9
     refine hK.out _ _ (SC.out _ (HS.out.oth.trans O3)) (fun hHeld=>nrm ?_)
     clear hK K
     refine rd1 16 (fun K hK=>?_)
     have O4:=O3.al (.cells #[.int .i64 k9,S n9,.int .i64 p9,.slice A9 xs9.length c9] 51)
     go_simp
     refine hK.out _ _ (SC.out _ (HS.out.oth.trans O4)) (fun hHeld=>nrm ?_)
     clear hK K
     refine rd1 17 (fun K hK=>?_)
     refine apT [.int .i64 k9,S n9,.int .i64 p9,.slice A9 xs9.length c9] (HOWN.out.kept O4 (Or.inr hTg)) (fun j u h=>ocells_new wA3 _ rfl [.int .i64 k9,S n9,.int .i64 p9,.slice A9 xs9.length c9] 51 j u h) oneCellT hlm hl56 (Nat.le_trans HS.out.size O4.size) ?_
     intro A10 c10 w10 hown10 hg10 hloc10
     obtain ⟨q10,o10,mg10,hfin⟩:=SbG.step HS.out (by omega) (by omega) (by omega) O3 HP9.out (by rw [hol];exact hown10) (by rw [hol];exact hg10) (by rw [hol];exact oalloc_loc hloc10)
     have hnx:=hfin A10 c10 (by rw [hol])
     rw [hol] at q10
     refine hK.out _ _ (SC.out _ o10) (fun hHeld=>nrm ?_)
     clear hK K
     refine tk 18 ?_
     refine rd1 19 (fun K hK=>?_)
     have z3:w10.cell? ⟨w3.heap.size,3,none⟩=some (.slice A k c):=zC q10 3
     have f3:=zF q10 3
     have HN:=zH hnx.1
     have HMG:=zH (hnx.2.trans MG9.out)
     clear hfin hown10 hg10 hloc10
     go_simp
     refine hK.out _ _ (SC.out _ hnx.1.oth) (fun hHeld=>nrm ?_)
     clear hK K
     clear z3 f3 q10 hnx
     refine wpAnyH_done (by kernel_rfl) ?_ _
     go_wp2_with fail
     go_roundw
     case rel=>exact ⟨k+1,A10,c10,_,_,wk9,er9,by omega,by go_num,HN,HMG,zH ⟨by rw [List.length_append,hol];rfl,fun h=>⟨HW9.out h,by rw [HTK.out];exact Lfc.sbRs_snoc HYS.out (HR9.out h)⟩⟩⟩
     case measure=>simp [intOf];omega
    go_simp
    go_at_call 52
    refine (IH.out _ _ (d+uu) wk' wA1 HSZ.out.1 HSZ.out.2.1 HOB.out HIN.out HSZ.out.2.2 MG HWK.out (HT.out.keep (fun b hb hlt=>O1.block b hlt (fun e=>hb (zO e))) O1.size (fun _ _ h=>h)) (HMS.out _ (HS.out.oth.trans O1)) (HSS.out.oth (HS.out.oth.trans O1))).mono ?_
    rintro e wA2 ⟨⟨wk9,er9,k9,n9,p9,xs9,A9,c9,rfl,mg9,hwk9,hv9,hr9⟩,no2⟩
    have O2:=O1.trans no2
    obtain ⟨A9',c9',e9,hp9⟩:=hv9.openT
    obtain ⟨rfl,rfl⟩:=agg4_inj e9
    have HP9:=zH (TreeP.keep (q':=fun b=>wr.heap.size≤b) (fun _ _ _=>rfl) (zN _) (fun b _ hb=>Nat.le_trans O1.size hb) _ _ _ _ _ hp9)
    have HW9:=zH hwk9
    have HR9:=zH hr9
    have MG9:=zH mg9
    clear hv9 hp9 hwk9 hr9 mg9 MG e9
    refine hK.out _ _ (SC.out _ (HS.out.oth.trans O2)) (fun hHeld=>nrm ?_)
    clear hK K
    refine rd2 1 16 (fun K hK=>?_) (fun K hK=>?_)
    ·have z3:wA2.cell? ⟨w3.heap.size,3,none⟩=some (.slice A k c):=zC ((O2.block _ lR hRg).trans HR.out) 3
     go_simp
     refine hK.out _ _ (SC.out _ (HS.out.oth.trans O2)) (fun hHeld=>nrm ?_)
     clear hK K
     clear z3
     refine rd1 16 (fun K hK=>?_)
     have O4:=O2.al (.cells #[.int .i64 k9,S n9,.int .i64 p9,.slice A9 xs9.length c9] 51)
     go_simp
     refine hK.out _ _ (SC.out _ (HS.out.oth.trans O4)) (fun hHeld=>nrm ?_)
     clear hK K
     refine rd1 17 (fun K hK=>?_)
     refine apT [.int .i64 k9,S n9,.int .i64 p9,.slice A9 xs9.length c9] (HOWN.out.kept O4 (Or.inr hTg)) (fun j u h=>ocells_new wA2 _ rfl [.int .i64 k9,S n9,.int .i64 p9,.slice A9 xs9.length c9] 51 j u h) oneCellT hlm hl56 (Nat.le_trans HS.out.size O4.size) ?_
     intro A10 c10 w10 hown10 hg10 hloc10
     obtain ⟨q10,o10,mg10,hfin⟩:=SbG.step HS.out (by omega) (by omega) (by omega) O2 HP9.out (by rw [hol];exact hown10) (by rw [hol];exact hg10) (by rw [hol];exact oalloc_loc hloc10)
     have hnx:=hfin A10 c10 (by rw [hol])
     rw [hol] at q10
     refine hK.out _ _ (SC.out _ o10) (fun hHeld=>nrm ?_)
     clear hK K
     refine tk 18 ?_
     refine rd1 19 (fun K hK=>?_)
     have z3:w10.cell? ⟨w3.heap.size,3,none⟩=some (.slice A k c):=zC q10 3
     have f3:=zF q10 3
     have HN:=zH hnx.1
     have HMG:=zH (hnx.2.trans MG9.out)
     clear hfin hown10 hg10 hloc10
     go_simp
     refine hK.out _ _ (SC.out _ hnx.1.oth) (fun hHeld=>nrm ?_)
     clear hK K
     clear z3 f3 q10 hnx
     refine wpAnyH_done (by kernel_rfl) ?_ _
     go_wp2_with fail
     go_roundw
     case rel=>exact ⟨k+1,A10,c10,_,_,wk9,er9,by omega,by go_num,HN,HMG,zH ⟨by rw [List.length_append,hol];rfl,fun h=>⟨HW9.out h,by rw [HTK.out];exact Lfc.sbRs_snoc HYS.out (HR9.out h)⟩⟩⟩
     case measure=>simp [intOf];omega
    have O3:=O2.al (.cells #[.int .i64 k9,S n9,.int .i64 p9,.slice A9 xs9.length c9] 51)
    go_simp
    refine hK.out _ _ (SC.out _ (HS.out.oth.trans O3)) (fun hHeld=>nrm ?_)
    clear hK K
    refine rd1 1 (fun K hK=>?_)
    have z3:(wA2.alloc (.cells #[.int .i64 k9,S n9,.int .i64 p9,.slice A9 xs9.length c9] 51)).cell? ⟨w3.heap.size,3,none⟩=some (.slice A k c):=zC ((O3.block _ lR hRg).trans HR.out) 3
    go_simp
    refine hK.out _ _ (SC.out _ (HS.out.oth.trans O3)) (fun hHeld=>nrm ?_)
    clear hK K
    clear z3
    refine rd1 17 (fun K hK=>?_)
    refine apT [.int .i64 k9,S n9,.int .i64 p9,.slice A9 xs9.length c9] (HOWN.out.kept O3 (Or.inr hTg)) (fun j u h=>ocells_new wA2 _ rfl [.int .i64 k9,S n9,.int .i64 p9,.slice A9 xs9.length c9] 51 j u h) oneCellT hlm hl56 (Nat.le_trans HS.out.size O3.size) ?_
    intro A10 c10 w10 hown10 hg10 hloc10
    obtain ⟨q10,o10,mg10,hfin⟩:=SbG.step HS.out (by omega) (by omega) (by omega) O2 HP9.out (by rw [hol];exact hown10) (by rw [hol];exact hg10) (by rw [hol];exact oalloc_loc hloc10)
    have hnx:=hfin A10 c10 (by rw [hol])
    rw [hol] at q10
    refine hK.out _ _ (SC.out _ o10) (fun hHeld=>nrm ?_)
    clear hK K
    refine tk 18 ?_
    refine rd1 19 (fun K hK=>?_)
    have z3:w10.cell? ⟨w3.heap.size,3,none⟩=some (.slice A k c):=zC q10 3
    have f3:=zF q10 3
    have HN:=zH hnx.1
    have HMG:=zH (hnx.2.trans MG9.out)
    clear hfin hown10 hg10 hloc10
    go_simp
    refine hK.out _ _ (SC.out _ hnx.1.oth) (fun hHeld=>nrm ?_)
    clear hK K
    clear z3 f3 q10 hnx
    refine wpAnyH_done (by kernel_rfl) ?_ _
    go_wp2_with fail
    go_roundw
    case rel=>exact ⟨k+1,A10,c10,_,_,wk9,er9,by omega,by go_num,HN,HMG,zH ⟨by rw [List.length_append,hol];rfl,fun h=>⟨HW9.out h,by rw [HTK.out];exact Lfc.sbRs_snoc HYS.out (HR9.out h)⟩⟩⟩
    case measure=>simp [intOf];omega
   obtain rfl:k=ts.length:=by omega
   have hpt:=trm_parts (lo:=w3.heap.size+1) (zN _) HS.out.own HS.out.row
   have hvO:TreeVP (fun b=>w3.heap.size+1≤b) wr (.node kd nm ps ys) (.agg #[.int .i64 kd,S nm,.int .i64 ps,.slice A ys.length c]):=TreeVP.mk hnl hpt.2 hpt.1
   have hys:=HYS.out
   rw [List.take_length] at hys
   have HSZY:=Lfc.sb_sizes V ts ys _ hys
   have hylen:=Lfc.sbRs_len ts ys _ hys
   obtain ⟨u0,u1,u2,u3⟩:=cells4t HS.out.r
   have QZ:=zH (HS.out.oth.heap QZ3.out (show w1.heap.size≠g by omega))
   have OWR:=zH (OW.out.trans HS.out.oth)
   have hlt1:¬ (ts.length:Int)<(ts.length:Int):=by omega
   by_cases hvar:kd=5∧(d:Int)≤ps
   ·obtain ⟨rfl,hdp⟩:=hvar
    obtain ⟨i,rfl⟩:∃i:Nat,ps=(d:Int)+(i:Int):=⟨(ps-d).toNat,by omega⟩
    have hiv:i<vs.length:=by have:=INS.out.1 rfl;omega
    have hge:decide ((d:Int)+(i:Int)≥(d:Int))=true:=by rw [decide_eq_true_eq];omega
    have hgeN:(d:Int)≤(d:Int)+(i:Int):=by omega
    have hwi:IntKind.i64.wrap ((d:Int)+(i:Int)-(d:Int))=(i:Int):=by rw [IntWalk.i64_in _ (by omega)];omega
    have hiv1:(i:Int)<(vs.length:Int):=by omega
    have hi0:(0:Int)≤(i:Int):=Int.natCast_nonneg _
    have HSB:Hid (∀x,ys.length=0→x=Lfc.mvv d vs[i]→Lfc.sbR vs (.node 5 nm ((d:Int)+(i:Int)) ts) x d):=zH (fun x h0 hx=>by
     have hts:ts=[]:=List.eq_nil_of_length_eq_zero (by omega)
     rw [Lfc.sbR]
     refine ⟨ys,?_,.inl ⟨rfl,by omega,i,hiv,rfl,hts,hx⟩⟩
     rw [HDD.out];exact hys)
    obtain ⟨bm,om,km,nmm,pm,um,Bm,cm',rfl,hbm,hbmg,htm,e0,e1,e2,e3,hTm⟩:=(HMS.out wr HS.out.oth).at_ hiv
    have MV:Hid (Calls Tryz.prog 79 #[.agg #[.int .i64 km,S nmm,.int .i64 pm,.slice Bm um.length cm'],.int .i64 (d:Int),.int .i64 0] wr fun e w'=>(∃v',e=.returned v'∧TreeVP (fun b=>wr.heap.size≤b) w' (Lfc.mvv d vs[i]) v')∧Below wr.heap.size wr w'):=zH (by
     by_cases hf:Lfc.kindOf ks (i:Int)=1
     ·have hc:=V.flx i hiv hf
      rw [Lfc.mvv_cl hc.1]
      rw [htm] at hc ⊢
      exact mMove_cl 1000 (by omega) _ _ _ _ _ (by have:=hc.2;omega) hc.1 hTm.toV
     have hr:=V.rig i hiv hf
     rw [hr,Lfc.mvv_vv]
     rw [hr,Lfc.vv] at htm
     injection htm with h1 h2 h3 h4
     subst h1
     subst h2
     subst h3
     subst h4
     have:=mMove_vv i d (by omega) (by omega) Bm cm' wr
     exact this)
    have HZM:Hid ((Lfc.mvv d vs[i]).size≤1000):=zH (by
     rw [Lfc.mvv_size]
     by_cases hf:Lfc.kindOf ks (i:Int)=1
     ·have:=(V.flx i hiv hf).2;omega
     rw [V.rig i hiv hf,Lfc.vv,Lfc.Raw.size,Lfc.Raw.sizes];omega)
    obtain ⟨bs,os,rfl,hbs,hbsg,hcs⟩:=HSW.out (by omega)
    have SSC:=zH (hcs i hiv)
    clear hcs hTm hvO hpt hys HSZY htm hol hylen
    obtain ⟨tm,htm⟩:∃tm,Lfc.mvv d vs[i]=tm:=⟨_,rfl⟩
    rw [htm] at MV HZM HSB
    clear htm
    go_wp2_with fail
    clear x0 m0 m1 x1 x2 x3 hge hgeN
    refine MV.out.mono ?_
    rintro e w6 ⟨⟨v6,rfl,hv6⟩,b6⟩
    obtain ⟨k6,n6,p6,us6,rfl⟩:=Lfc.Raw.ex tm
    obtain ⟨A6,c6,rfl,hp6⟩:=hv6.openT
    clear e0 e1 e2 e3 MV hp6
    obtain ⟨w7,hw7⟩:∃w7,w6.alloc (.cells #[.int .i64 k6,S n6,.int .i64 p6,.slice A6 us6.length c6] 51)=w7:=⟨_,rfl⟩
    have b7:=zG hw7
    have q7:=zQ hw7
    have b67:Below wr.heap.size wr w7:=b6.trans (b7.mono b6.size)
    have HB7:=zH b67
    have Q7:=zH q7
    have hv7:=hv6.keep (w':=w7) (q':=fun b=>w.heap.size≤b∧b≠w1.heap.size) (fun b _ hlt=>b7.block b hlt) b7.size (fun b _ hb=>by have hb:wr.heap.size≤b:=hb;exact ⟨by omega,by omega⟩)
    have HV7:=zH hv7
    have GRT:=zH (mGreat_any 1000 _ _ w7 HZM.out (by have:=HZM.out;omega) hv7.toV)
    obtain ⟨t0,t1,t2,t3⟩:=cells4t q7
    have s67:=b6.size
    have s77:=b7.size
    have l7:=zL q7
    have HW7:=zH hw7
    clear hv6 b6 b7 q7 b67 hv7 hw7
    go_upto_region 18 with fail
    rw [HW7.out]
    clear HW7
    go_wp2_with fail
    refine GRT.out.mono ?_
    rintro e w8 ⟨⟨z,rfl⟩,b8⟩
    clear t0 t1 t2 t3 GRT
    have O8':Oth g wr w8:=(Oth.of_below HB7.out).trans (Oth.of_below b8)
    have MG8':w8.heap[g]?=some (.cells #[.int .i64 wk',.int .i64 0] 107 (0,0)):=(b8.block _ (by omega)).trans ((HB7.out.block _ (by omega)).trans HMG.out)
    have s88:=b8.size
    by_cases hzg:z>1048576
    ·have hz1:decide (z>1048576)=true:=by rw [decide_eq_true_eq];exact hzg
     have hz2:1048576<z:=hzg
     obtain ⟨w9,hw9⟩:∃w9,w8.setCell ⟨g,1,none⟩ (.int .i64 5)=w9:=⟨_,rfl⟩
     have o9:Oth g w8 w9:=by rw [←hw9];exact Oth.set _ _
     have g9:w9.heap[g]?=some (.cells #[.int .i64 wk',.int .i64 5] 107 (0,0)):=by rw [←hw9];exact mac_set MG8' _
     have fg:=zF MG8' 1
     obtain ⟨m0,m1⟩:=cells2m MG8'
     obtain ⟨s1,s2,s3,s4,g1,g2,g3,g4,⟨p0,p1',p2,p3⟩,⟨f0,f1,f2,f3⟩,hq,HZ⟩:=mac_zero (w:=w) (q:=fun b=>w.heap.size≤b) (r:=fun x=>Lfc.sbR vs (.node 5 nm ((d:Int)+(i:Int)) ts) x d) (by omega) (by omega) (OWR.out.trans (O8'.trans o9)) g9 (by decide) (o9.heap (O8'.heap QZ.out (by omega)) (by omega))
     clear o9 g9 O8' MG8' hzg
     have HQ:=zH hq
     clear hq
     go_wp2_with fail
     refine bodyPost_ret (results_term rfl _ _ _ _ _ _ _ rfl HQ.out) rfl ?_
     exact HZ.out
    have hz1:decide (z>1048576)=false:=by rw [decide_eq_false_iff_not];exact hzg
    have hz2:¬ 1048576<z:=hzg
    have HV8':Hid (TreeVP (fun b=>w.heap.size≤b∧b≠w1.heap.size) w8 (.node k6 n6 p6 us6) (.agg #[.int .i64 k6,S n6,.int .i64 p6,.slice A6 us6.length c6])):=zH (HV7.out.keep (fun b _ hlt=>b8.block b hlt) b8.size (fun _ _ h=>h))
    have HZ6:Hid ((Lfc.Raw.node k6 n6 p6 us6).size≤1000000):=zH (by have:=HZM.out;omega)
    have SD:Hid (∀W:World,(∀b,b<w8.heap.size→b≠w1.heap.size→b≠g→W.heap[b]?=w8.heap[b]?)→((W.cell? ⟨w6.heap.size,0,none⟩=some (.int .i64 k6)∧W.cell? ⟨w6.heap.size,1,none⟩=some (S n6)∧W.cell? ⟨w6.heap.size,2,none⟩=some (.int .i64 p6)∧W.cell? ⟨w6.heap.size,3,none⟩=some (.slice A6 us6.length c6))∧(W.cell? ⟨bs,os+i*2,none⟩=some (S [105])∧W.cell? ⟨bs,os+i*2+1,none⟩=some (.slice none 0 0))∧W.cell? ⟨w3.heap.size,3,none⟩=some (.slice A ys.length c))):=zH (fun W hW=>by
     have hq8:=(b8.block _ l7).trans Q7.out
     refine ⟨cells4t ((hW _ (by omega) (by omega) (by omega)).trans hq8),?_,?_⟩
     ·have hb:=(hW bs (by omega) (by omega) hbsg).trans ((O8'.block bs (by omega) (fun e=>hbsg (zO e))).trans (OWR.out.block bs hbs (fun e=>hbsg (zO e))))
      exact ⟨(World.cell?_of_block (a:=⟨bs,os+i*2,none⟩) hb).trans SSC.out.1,(World.cell?_of_block (a:=⟨bs,os+i*2+1,none⟩) hb).trans SSC.out.2⟩
     have hb:=(hW w3.heap.size (by omega) (by omega) (by omega)).trans (O8'.block w3.heap.size lR (fun e=>by have:=zO e;omega))
     exact (World.cell?_of_block (a:=⟨w3.heap.size,3,none⟩) hb).trans u3)
    clear b8 hzg u0 u1 u2
    go_upto_region 21 with fail
    clear u3
    refine wp_region_held_drew (S:=fun W=>((W.cell? ⟨w6.heap.size,0,none⟩=some (.int .i64 k6)∧W.cell? ⟨w6.heap.size,1,none⟩=some (S n6)∧W.cell? ⟨w6.heap.size,2,none⟩=some (.int .i64 p6)∧W.cell? ⟨w6.heap.size,3,none⟩=some (.slice A6 us6.length c6))∧(W.cell? ⟨bs,os+i*2,none⟩=some (S [105])∧W.cell? ⟨bs,os+i*2+1,none⟩=some (.slice none 0 0))∧W.cell? ⟨w3.heap.size,3,none⟩=some (.slice A ys.length c))) (by kernel_rfl) ?_ (fun hHeld=>?_)
    ·exact SD.out _ (fun b _ _ _=>rfl)
    obtain ⟨wz,hwz⟩:∃wz,w8.drew=wz:=⟨_,rfl⟩
    have O8:Oth g wr wz:=by rw [←hwz];exact O8'.drew
    have MG8:wz.heap[g]?=some (.cells #[.int .i64 wk',.int .i64 0] 107 (0,0)):=by rw [←hwz];exact MG8'
    have HV8:Hid (TreeVP (fun b=>w.heap.size≤b∧b≠w1.heap.size) wz (.node k6 n6 p6 us6) (.agg #[.int .i64 k6,S n6,.int .i64 p6,.slice A6 us6.length c6])):=by rw [←hwz];exact zH (HV8'.out.keep (w:=w8) (fun _ _ _=>rfl) (zN _) (fun _ _ h=>h))
    have SE:Hid (∀W:World,(∀b,b<wz.heap.size→b≠w1.heap.size→b≠g→W.heap[b]?=wz.heap[b]?)→((W.cell? ⟨w6.heap.size,0,none⟩=some (.int .i64 k6)∧W.cell? ⟨w6.heap.size,1,none⟩=some (S n6)∧W.cell? ⟨w6.heap.size,2,none⟩=some (.int .i64 p6)∧W.cell? ⟨w6.heap.size,3,none⟩=some (.slice A6 us6.length c6))∧(W.cell? ⟨bs,os+i*2,none⟩=some (S [105])∧W.cell? ⟨bs,os+i*2+1,none⟩=some (.slice none 0 0))∧W.cell? ⟨w3.heap.size,3,none⟩=some (.slice A ys.length c))):=by rw [←hwz];exact SD
    rw [hwz] at hHeld ⊢
    clear hwz SD
    refine tk 0 ?_
    refine tk 1 ?_
    refine tk 2 ?_
    refine tk 3 ?_
    refine tk 4 ?_
    refine tk 5 ?_
    refine tk 6 ?_
    refine tk 7 ?_
    refine rd1 8 (fun K hK=>?_)
    go_simp
    go_at_call 81
    refine (mApplied_any g wk' (fun b=>w.heap.size≤b∧b≠w1.heap.size) (.node k6 n6 p6 us6) _ A ys.length c wz HZ6.out HWK.out MG8 (fun b hb=>by have:=hb.1;omega) (HV8.out.keep (fun _ _ _=>rfl) (zN _) (fun b hlt hb=>⟨hb,hlt⟩))).mono ?_
    rintro e w9 ⟨⟨wk9,er9,k9,n9,p9,xs9,A9,c9,rfl,mg9,hwk9,hv9,hr9⟩,o9⟩
    obtain ⟨s1,s2,s3,s4,g1,g2,g3,g4,⟨p0,p1',p2,p3⟩,⟨f0,f1,f2,f3⟩,hq,HZ⟩:=mac_ret (w:=w) (q:=fun b=>w.heap.size≤b) (r:=fun x=>Lfc.sbR vs (.node 5 nm ((d:Int)+(i:Int)) ts) x d) (by omega) (by omega) (OWR.out.trans (O8.trans o9)) mg9 hwk9 (o9.heap (O8.heap QZ.out (by omega)) (by omega)) hv9 (fun h=>HSB.out _ (hr9 h).1 (hr9 h).2)
    have HQ:=zH hq
    have hos4:∀b,b<wz.heap.size→b≠w1.heap.size→b≠g→s4.heap[b]?=wz.heap[b]?:=fun b hb h1 h2=>(mac_oth HQ g1 g2 g3 g4 b h1).trans (o9.block b hb (fun e=>h2 (zO e)))
    clear hq mg9 hwk9 hv9 hr9
    refine hK.out _ _ (SE.out _ (fun b hb _ h2=>o9.block b hb (fun e=>h2 (zO e)))) (fun hHeld=>nrm ?_)
    clear hK K
    refine rd1 9 (fun K hK=>?_)
    go_simp
    refine hK.out _ _ (SE.out _ hos4) (fun hHeld=>nrm ?_)
    clear hK K
    refine wpAnyH_done (by kernel_rfl) ?_ _
    go_wp2_with fail
    refine bodyPost_ret (results_term rfl _ _ _ _ _ _ _ rfl HQ.out) rfl ?_
    exact HZ.out
   have hvO2:=hvO.keep (w':=wr) (q':=fun b=>(w.heap.size≤b∧b≠w1.heap.size)∧b<wr.heap.size) (fun _ _ _=>rfl) (zN _) (fun b hlt hb=>by have hb:w3.heap.size+1≤b:=hb;exact ⟨⟨by omega,by omega⟩,hlt⟩)
   have CK:=zH (mChecked_any g wk' (fun b=>w.heap.size≤b∧b≠w1.heap.size) (.node kd nm ps ys) _ wr (by rw [Lfc.Raw.size];omega) HWK.out HMG.out (fun b hb=>by have:=hb.1;omega) hvO2)
   have HSB:Hid (∀x,x=Lfc.Raw.node kd nm ps ys→Lfc.sbR vs (.node kd nm ps ts) x d):=zH (fun x hx=>by
    rw [hx,Lfc.sbR]
    refine ⟨ys,by rw [HDD.out];exact hys,.inr ⟨hvar,rfl⟩⟩)
   have hv6:(kd == 5)=false∨((kd == 5)=true∧decide (ps≥(d:Int))=false∧¬ (d:Int)≤ps):=by
    by_cases e:kd=5
    ·exact .inr ⟨by simp [e],by rw [decide_eq_false_iff_not];exact fun h=>hvar ⟨e,h⟩,fun h=>hvar ⟨e,h⟩⟩
    exact .inl (by simpa using e)
   have HV6:=zH hv6
   clear hvO hvO2 hpt hys HSZY hv6 hvar hol hylen
   rcases HV6.out with g5 | ⟨g5,g6,g7⟩
   all_goals
    go_wp2_with fail
    refine CK.out.mono ?_
    rintro e w5 ⟨⟨wk5,er5,k5,n5,p5,xs5,A5,c5,rfl,mg5,hwk5,hv5,hr5⟩,o5⟩
    obtain ⟨s1,s2,s3,s4,g1,g2,g3,g4,⟨p0,p1',p2,p3⟩,⟨f0,f1,f2,f3⟩,hq,HZ⟩:=mac_ret (w:=w) (q:=fun b=>w.heap.size≤b) (r:=fun x=>Lfc.sbR vs (.node kd nm ps ts) x d) (by omega) (by omega) (OWR.out.trans o5) mg5 hwk5 (o5.heap QZ.out (by omega)) hv5 (fun h=>HSB.out _ (hr5 h))
    clear mg5 hwk5 hv5 hr5 o5 x0 x1 x2 x3 m0 m1 u0 u1 u2 u3
    have HQ:=zH hq
    clear hq
    go_wp2_with fail
    refine bodyPost_ret (results_term rfl _ _ _ _ _ _ _ rfl HQ.out) rfl ?_
    exact HZ.out
  have her1:(er' == 0)=false:=by simpa using her
  have her2:decide (er'=0)=false:=by simpa using her
  obtain ⟨s1,s2,s3,s4,g1,g2,g3,g4,⟨p0,p1',p2,p3⟩,⟨f0,f1,f2,f3⟩,hq,HZ⟩:=mac_zero (w:=w) (q:=fun b=>w.heap.size≤b) (r:=fun x=>Lfc.sbR vs (.node kd nm ps ts) x d) (by omega) (by omega) (OW.out.trans HS.out.oth) HMG.out her (HS.out.oth.heap QZ3.out (by omega))
  by_cases hlt:k<ts.length
  ·have hlt1:(k:Int)<(ts.length:Int):=by omega
   clear her
   have HQ:=zH hq
   clear hq
   go_wp2_with fail
   refine bodyPost_ret (results_term rfl _ _ _ _ _ _ _ rfl HQ.out) rfl ?_
   exact HZ.out
  have hlt1:¬ (k:Int)<(ts.length:Int):=by omega
  clear her
  have HQ:=zH hq
  clear hq
  go_wp2_with fail
  refine bodyPost_ret (results_term rfl _ _ _ _ _ _ _ rfl HQ.out) rfl ?_
  exact HZ.out
end Go.Proofs.YtadjpadieljjlaaGreat
namespace Go.Proofs.YtadjpadieljjlaaGreat
open Go.RowKit Go.Maps
attribute [local go_sem ↓] Go.wp_at_zero Go.wp_at_succ
def MnyAns (w:World) (r:Lfc.Raw→Prop) (e:Ending) (w':World):Prop :=
 (∃ (k p:Int) (nm:List UInt8) (ts:List Lfc.Raw) (A:Option Addr) (c:Nat) (z:Int),e=.returned (.tuple #[.agg #[.int .i64 k,S nm,.int .i64 p,.slice A (List.length ts) c],.int .i64 z])∧TreeVP (fun b=>w.heap.size≤b) w' (.node k nm p ts) (.agg #[.int .i64 k,S nm,.int .i64 p,.slice A (List.length ts) c])∧(z=0→r (.node k nm p ts)))∧Below w.heap.size w w'
theorem mny_ret {w wr:World} {r:Lfc.Raw→Prop} {G:Nat} {k p:Int} {nm:List UInt8} {ts:List Lfc.Raw} {A:Option Addr} {c:Nat} {z0 z1 z2 z3:Value} (z:Int) (hb:Below w.heap.size w wr) (hr:z=0→r (.node k nm p ts)) (hG:w.heap.size≤G) (hq:wr.heap[G]?=some (.cells #[z0,z1,z2,z3] 51 (0,0))) (hv:TreeVP (fun b=>w.heap.size≤b∧b≠G) wr (.node k nm p ts) (.agg #[.int .i64 k,S nm,.int .i64 p,.slice A ts.length c])) :
  ∃s1 s2 s3 s4,wr.setCell ⟨G,0,none⟩ (.int .i64 k)=s1∧s1.setCell ⟨G,1,none⟩ (S nm)=s2∧s2.setCell ⟨G,2,none⟩ (.int .i64 p)=s3∧s3.setCell ⟨G,3,none⟩ (.slice A ts.length c)=s4 ∧
   (wr.cell? ⟨G,0,none⟩=some z0∧s1.cell? ⟨G,1,none⟩=some z1∧s2.cell? ⟨G,2,none⟩=some z2∧s3.cell? ⟨G,3,none⟩=some z3) ∧
   (wr.frozen? ⟨G,0,none⟩=false∧s1.frozen? ⟨G,1,none⟩=false∧s2.frozen? ⟨G,2,none⟩=false∧s3.frozen? ⟨G,3,none⟩=false) ∧
   s4.heap[G]?=some (.cells #[.int .i64 k,S nm,.int .i64 p,.slice A ts.length c] 51 (0,0))∧Hid (MnyAns w r (.returned (.tuple #[.agg #[.int .i64 k,S nm,.int .i64 p,.slice A ts.length c],.int .i64 z])) s4):=by
 obtain ⟨s1,s2,s3,s4,g1,g2,g3,g4,hy,hf,hq4,hot⟩:=tput4 hq (.int .i64 k) (S nm) (.int .i64 p) (.slice A ts.length c)
 refine ⟨s1,s2,s3,s4,g1,g2,g3,g4,hy,hf,hq4,zH ⟨⟨k,p,nm,ts,A,c,z,rfl,?_,hr⟩,?_⟩⟩
 ·exact hv.keep (fun b hb hlt=>hot.block b hlt (fun e=>hb.2 (zO e))) hot.size (fun b _ hb=>hb.1)
 exact Oth.below hb hot hG hb.size
theorem mny_zero {w wr:World} {r:Lfc.Raw→Prop} {G:Nat} {z0 z1 z2 z3:Value} (z:Int) (hb:Below w.heap.size w wr) (hz:z≠0) (hG:w.heap.size≤G) (hq:wr.heap[G]?=some (.cells #[z0,z1,z2,z3] 51 (0,0))) :
  ∃s1 s2 s3 s4,wr.setCell ⟨G,0,none⟩ (.int .i64 0)=s1∧s1.setCell ⟨G,1,none⟩ (S [])=s2∧s2.setCell ⟨G,2,none⟩ (.int .i64 0)=s3∧s3.setCell ⟨G,3,none⟩ (.slice none 0 0)=s4 ∧
   (wr.cell? ⟨G,0,none⟩=some z0∧s1.cell? ⟨G,1,none⟩=some z1∧s2.cell? ⟨G,2,none⟩=some z2∧s3.cell? ⟨G,3,none⟩=some z3) ∧
   (wr.frozen? ⟨G,0,none⟩=false∧s1.frozen? ⟨G,1,none⟩=false∧s2.frozen? ⟨G,2,none⟩=false∧s3.frozen? ⟨G,3,none⟩=false) ∧
   s4.heap[G]?=some (.cells #[.int .i64 0,S [],.int .i64 0,.slice none 0 0] 51 (0,0))∧Hid (MnyAns w r (.returned (.tuple #[.agg #[.int .i64 0,S [],.int .i64 0,.slice none 0 0],.int .i64 z])) s4) :=
 mny_ret (k:=0) (nm:=[]) (p:=0) (ts:=[]) (A:=none) (c:=0) z hb (fun h=>absurd h hz) hG hq (TreeVP.mk (by decide) (zN _) (fun h=>absurd rfl h))
theorem SimsAt.toG {w:World} {B:Option Addr} {n g:Nat} (h:SimsAt w B n) (hg:w.heap.size≤g):SimsG g w B n:=fun hn=>by
 obtain ⟨b,o,hB,hlt,hc⟩:=h hn
 exact ⟨b,o,hB,hlt,by omega,hc⟩
theorem SimsG.up {g:Nat} {w w':World} {B:Option Addr} {n:Nat} (h:SimsG g w B n) (hb:Below w.heap.size w w'):SimsG g w' B n:=h.oth (Oth.of_below hb)
theorem mMany_any (ks:List Int) (vs:List Lfc.Raw) (V:Lfc.Vals ks vs) (hvn:vs.length≤100) (hvz:∀x∈vs,x.size≤1000000) (Am Bs:Option Addr) (cm cs:Nat) (hAm:Am=none→vs.length=0∧cm=0) (t:Lfc.Raw) (v:Value) (w:World) (hz:t.size≤1000) (hob:t.obj=true) (hin:t.inS vs.length 0) (hv:TreeV w t v) (hms:TreesAt w Am vs) (hss:SimsAt w Bs vs.length) :
  Calls Tryz.prog 27 #[v,.slice Am vs.length cm,.slice Bs vs.length cs] w (MnyAns w (fun x=>Lfc.sbR vs t x 0)):=by
 obtain ⟨i0,hi,hz0,hz1,hz2⟩:=info_parts termInfo
 have HV:=zH hv
 have HMS:=zH hms
 have HSS:=zH hss
 have HIN:=zH (And.intro hob hin)
 obtain ⟨kd,nm,ps,ts⟩:=t
 obtain ⟨A,c,rfl,hc,hA⟩:=hv.open_
 obtain ⟨xs,hxl,hxr,hxc,hxo⟩:=treesAt_part hms
 obtain ⟨w1,hw1⟩:∃w1,w.alloc (.cells #[.int .i64 kd,S nm,.int .i64 ps,.slice A ts.length c] 51)=w1:=⟨_,rfl⟩
 obtain ⟨w2,hw2⟩:∃w2,w1.alloc (.cells #[.int .i64 0,S [],.int .i64 0,.slice none 0 0] 51)=w2:=⟨_,rfl⟩
 obtain ⟨w3,hw3⟩:∃w3,w2.alloc (.cells #[.int .i64 kd,S nm,.int .i64 ps,.slice A ts.length c] 51)=w3:=⟨_,rfl⟩
 have b1:=zG hw1
 have b2:=zG hw2
 have b3:=zG hw3
 have q1:=zQ hw1
 have q2:=zQ hw2
 have l1:=zL q1
 have l2:=zL q2
 have s3:=b3.size
 have b12:Below w.heap.size w w2:=b1.trans (b2.mono (by omega))
 have b13:Below w.heap.size w w3:=b12.trans (b3.mono (by omega))
 have own3:w3.ownsRow w2.heap.size 51 4 (.slice (some ⟨w2.heap.size,0,none⟩) 1 1) 1 [.int .i64 kd,S nm,.int .i64 ps,.slice A ts.length c]:=by
  rw [←hw3]
  exact World.ownsRow_lit w2 #[.int .i64 kd,S nm,.int .i64 ps,.slice A ts.length c] 1 (zN _) (by unfold maxLen;omega) rfl
 have B12:=zH b12
 have B13:=zH b13
 have B3:=zH b3
 have Q1:=zH ((b2.block _ l1).trans q1)
 have Q2:=zH q2
 have OWN3:=zH own3
 have HW3:=zH hw3
 have XC:Hid (∀a,Am=some a→∀j u,xs[j]?=some u→w3.cell? (a.add j)=some u):=zH (fun a ha j u hj=>(b13.cell (World.block_lt_of_cell? w _ (hxc a ha j u hj))).trans (hxc a ha j u hj))
 have XO:=zH hxo
 have FO:Hid (∀W v',Below w2.heap.size w2 W→W.ownsRow w2.heap.size 51 4 v' (1+vs.length) ([.int .i64 kd,S nm,.int .i64 ps,.slice A ts.length c]++xs)→∃A' c',v'=.slice A' (1+vs.length) c'∧Calls Tryz.prog 49 #[v'] W fun e w'=>(∃z:Int,e=.returned (.int .i64 z))∧Below W.heap.size W w'):=zH (fun W v' hb ho=>by
  have hbw:=B12.out.trans (hb.mono B12.out.size)
  have hr:RowP (fun b=>b<w.heap.size) W (.node kd nm ps ts :: vs) ([.int .i64 kd,S nm,.int .i64 ps,.slice A ts.length c]++xs):=by
   have h0:=RowP.keep (q':=fun b=>b<w.heap.size) (fun b hb1 hb2=>hbw.block b hb2) hbw.size (fun _ _ h=>h) hxr
   obtain ⟨v0,v1,v2,v3,e,hP⟩:=(HV.out.toP (q:=fun b=>b<w.heap.size) (fun _ h=>h)).keep (q':=fun b=>b<w.heap.size) (fun b hb1 hb2=>hbw.block b hb2) hbw.size (fun _ _ h=>h)
   injection e with e
   simp only [Array.mk.injEq,List.cons.injEq,and_true] at e
   obtain ⟨rfl,rfl,rfl,rfl⟩:=e
   rw [RowP]
   exact ⟨_,_,_,_,xs,rfl,hP,h0⟩
  obtain ⟨A',c',rfl,hT⟩:=treesAt_own ho hr
  have hl:(Lfc.Raw.node kd nm ps ts :: vs).length=1+vs.length:=by rw [List.length_cons];omega
  have:=m5Formed (.node kd nm ps ts :: vs) A' c' W (by rw [hl];omega) (fun x hx=>by
   rcases List.mem_cons.1 hx with rfl | hx
   ·omega
   exact hvz x hx) hT
  rw [hl] at this ⊢
  exact ⟨A',c',rfl,this⟩)
 have SI:Hid (∀W,Below w2.heap.size w2 W→Calls Tryz.prog 50 #[.slice Bs vs.length cs] W fun e w'=>(∃z:Int,e=.returned (.int .i64 z))∧Below W.heap.size W w'):=zH (fun W hb=>m8Simples Bs vs.length cs W (by omega) (HSS.out.below (B12.out.trans (hb.mono B12.out.size))))
 have OB:Hid (∀W,Below w2.heap.size w2 W→Calls Tryz.prog 51 #[.slice Am vs.length cm] W fun e w'=>(∃z:Int,e=.returned (.int .i64 z))∧Below W.heap.size W w'):=zH (fun W hb=>m8Objects vs Am cm W (by omega) hvz (HMS.out.below (B12.out.trans (hb.mono B12.out.size))))
 have SU:Hid (∀W,Below w2.heap.size w2 W→Calls Tryz.prog 52 #[.pointer (some ⟨W.heap.size,0,none⟩),.agg #[.int .i64 kd,S nm,.int .i64 ps,.slice A ts.length c],.slice Am vs.length cm,.slice Bs vs.length cs,.int .i64 0] (W.alloc (.cells #[.int .i64 0,.int .i64 0] 107)) (MacAns (W.alloc (.cells #[.int .i64 0,.int .i64 0] 107)) W.heap.size (fun b=>(W.alloc (.cells #[.int .i64 0,.int .i64 0] 107)).heap.size≤b) (fun x=>Lfc.sbR vs (.node kd nm ps ts) x 0))):=zH (fun W hb=>by
  have hbw:=B12.out.trans (hb.mono B12.out.size)
  have hba:Below w.heap.size w (W.alloc (.cells #[.int .i64 0,.int .i64 0] 107)):=hbw.alloc hbw.size _
  have hsw:=hbw.size
  exact mSubst_upto ks vs V (by omega) Am Bs cm cs W.heap.size 1000 _ _ 0 0 _ hz hz HIN.out.1 HIN.out.2 (by omega) (zW _ _) (by omega)
   ((HV.out.toP (q:=fun b=>b<w.heap.size) (fun _ h=>h)).keep (fun b hb1 hb2=>hba.block b hb2) hba.size (fun b _ hb=>by have hb:b<w.heap.size:=hb;show b≠W.heap.size;omega))
   (HMS.out.toP.keep (fun b hb1 hb2=>hba.block b hb2) hba.size (fun b _ hb=>by have hb:b<w.heap.size:=hb;show b≠W.heap.size;omega))
   ((HSS.out.toG (g:=W.heap.size) hsw).up hba))
 obtain ⟨x0,x1,x2,x3⟩:=cells4t Q1.out
 obtain ⟨n,hn⟩:∃n,vs.length=n:=⟨_,rfl⟩
 rw [hn] at FO SI OB SU hxl hAm hvn ⊢
 have hi1:1+n≤maxLen:=by unfold maxLen;omega
 have hi2:(1+n)*56≤140737488355328:=by omega
 clear hv hA b1 b2 b3 q1 q2 b12 b13 hxr hxc hxo own3 hw3 hms hss hob hin HV HMS HSS HIN hn hvz
 go_enter Tryz.func27,Tryz.ntmps27
 go_upto_region 1 with fail
 clear hw1 hw2
 have KEY:Hid (∀W v',Below w2.heap.size w2 W→W.ownsRow w2.heap.size 51 4 v' (1+n) ([.int .i64 kd,S nm,.int .i64 ps,.slice A ts.length c]++xs)→Hid (∃A' c',v'=.slice A' (1+n) c'∧Calls Tryz.prog 49 #[v'] W fun e w'=>(∃z:Int,e=.returned (.int .i64 z))∧Below W.heap.size W w')):=zH (fun W v' h1 h2=>zH (FO.out W v' h1 h2))
 clear FO
 go_cut [8] (fun s wx=>∃z:Int,s=.int .i64 z∧Hid (Below w2.heap.size w2 wx))
 case first =>
  have hw3:=HW3.out
  cases Am with
  | none =>
   obtain ⟨hn0,hc0⟩:=hAm rfl
   subst hc0
   have hx0:xs=[]:=List.length_eq_zero_iff.1 (by omega)
   subst hx0
   subst hn0
   go_wp2_with (at_builtin;refine wpList_append_own_none rfl _ _ 27 rfl w2.heap.size 51 i0 4 Tryz.underlying27 hi _ _ _ rfl OWN3.out rfl ?_)
   obtain ⟨A',c',he,hC⟩:=(KEY.out w3 _ B3.out OWN3.out).out
   refine hC.mono ?_
   rintro e w4 ⟨⟨z,rfl⟩,b4⟩
   have HB4:=zH (B3.out.trans (b4.mono s3))
   clear hC he b4 x0 x1 x2 x3
   go_wp2_with fail
   go_meet
   exact ⟨z,rfl,HB4⟩
  | some a =>
   go_wp2_with (at_builtin;refine wpList_append_own_at _ rfl _ _ 27 rfl w2.heap.size 51 i0 _ 4 56 Tryz.underlying27 hi hz0 hz1 hz2 rfl (by decide) _ _ _ rfl OWN3.out a n cm xs rfl hxl (XC.out a rfl) XO.out hi1 hi2 s3 ?_)
   intro v9 w9 hown9 hg9 _ _
   have hb9:Below w2.heap.size w2 w9:=Below.grown B3.out hg9 s3 (fun b e=>(OWN3.out.lt b e).1)
   obtain ⟨A',c',rfl,hC⟩:=(KEY.out w9 _ hb9 hown9).out
   have HC:=zH hC
   have HB9:=zH hb9
   have s9:=hb9.size
   clear hown9 hg9 hC hb9 x0 x1 x2 x3
   go_wp2_with fail
   refine HC.out.mono ?_
   rintro e w4 ⟨⟨z,rfl⟩,b4⟩
   have HB4:=zH (HB9.out.trans (b4.mono s9))
   clear HC b4
   go_wp2_with fail
   go_meet
   exact ⟨z,rfl,HB4⟩
 obtain ⟨z,rfl,HB⟩:=hcut
 clear KEY OWN3 HW3 XC XO hxl hAm
 have sB:=HB.out.size
 by_cases hz:z=0
 ·subst hz
  go_wp2_with fail
  refine (SI.out _ HB.out).mono ?_
  rintro e w5 ⟨⟨z5,rfl⟩,b5⟩
  have HB5:=zH (HB.out.trans (b5.mono sB))
  have s5:=HB5.out.size
  clear b5 SI
  by_cases hz5:z5=0
  ·subst hz5
   go_wp2_with fail
   refine (OB.out _ HB5.out).mono ?_
   rintro e w6 ⟨⟨z6,rfl⟩,b6⟩
   have HB6:=zH (HB5.out.trans (b6.mono s5))
   have s6:=HB6.out.size
   clear b6 OB
   by_cases hz6:z6=0
   ·subst hz6
    have CS:=SU.out _ HB6.out
    obtain ⟨w7,hw7⟩:∃w7,w6.alloc (.cells #[.int .i64 0,.int .i64 0] 107)=w7:=⟨_,rfl⟩
    rw [hw7] at CS
    have b7:=zG hw7
    have HB7:=zH (HB6.out.trans (b7.mono s6))
    have s7:=b7.size
    have l7:w6.heap.size<w7.heap.size:=by rw [←hw7];simp
    have CSH:=zH CS
    obtain ⟨x0,x1,x2,x3⟩:=cells4t ((HB7.out.block _ (by omega)).trans Q1.out)
    have H7:=zH hw7
    clear CS b7 SU hw7
    go_upto_region 13 with fail
    rw [H7.out]
    clear H7
    go_wp2_with fail
    refine CSH.out.mono ?_
    rintro e w8 ⟨⟨wk9,er9,k9,n9,p9,xs9,A9,c9,rfl,mg9,hwk9,hv9,hr9⟩,o8⟩
    obtain ⟨w9,hw9⟩:∃w9,w8.alloc (.cells #[.int .i64 k9,S n9,.int .i64 p9,.slice A9 xs9.length c9] 51)=w9:=⟨_,rfl⟩
    have b9:=zG hw9
    have q9:=zQ hw9
    have s8:=o8.size
    have s9:=b9.size
    have l9:=zL q9
    have lg:=zL mg9
    have b28:Below w2.heap.size w2 w8:=Oth.below HB7.out o8 (by omega) (by omega)
    have b29:Below w2.heap.size w2 w9:=b28.trans (b9.mono (by omega))
    have BW9:Hid (Below w.heap.size w w9):=zH (B12.out.trans (b29.mono B12.out.size))
    have QZ:=zH ((b29.block _ l2).trans Q2.out)
    have HR9:=zH hr9
    have HV9:Hid (TreeVP (fun b=>w.heap.size≤b∧b≠w1.heap.size) w9 (.node k9 n9 p9 xs9) (.agg #[.int .i64 k9,S n9,.int .i64 p9,.slice A9 xs9.length c9])):=zH (hv9.keep (fun b _ hlt=>b9.block b hlt) b9.size (fun b _ hb=>by have hb:w7.heap.size≤b:=hb;exact ⟨by omega,by omega⟩))
    have SD:Hid (∀W:World,(∀b,b<w9.heap.size→b≠w1.heap.size→W.heap[b]?=w9.heap[b]?)→((W.cell? ⟨w8.heap.size,0,none⟩=some (.int .i64 k9)∧W.cell? ⟨w8.heap.size,1,none⟩=some (S n9)∧W.cell? ⟨w8.heap.size,2,none⟩=some (.int .i64 p9)∧W.cell? ⟨w8.heap.size,3,none⟩=some (.slice A9 xs9.length c9))∧W.cell? ⟨w6.heap.size,1,none⟩=some (.int .i64 er9))):=zH (fun W hW=>⟨cells4t ((hW _ l9 (by omega)).trans q9),zC ((hW w6.heap.size (by omega) (by omega)).trans ((b9.block _ lg).trans mg9)) 1⟩)
    have H9:=zH hw9
    clear mg9 hwk9 hv9 hr9 o8 b9 q9 b28 b29 hw9 x0 x1 x2 x3
    go_upto_region 14 with fail
    rw [H9.out]
    clear H9
    refine wp_region_held_drew (S:=fun W=>((W.cell? ⟨w8.heap.size,0,none⟩=some (.int .i64 k9)∧W.cell? ⟨w8.heap.size,1,none⟩=some (S n9)∧W.cell? ⟨w8.heap.size,2,none⟩=some (.int .i64 p9)∧W.cell? ⟨w8.heap.size,3,none⟩=some (.slice A9 xs9.length c9))∧W.cell? ⟨w6.heap.size,1,none⟩=some (.int .i64 er9))) (by kernel_rfl) ?_ (fun hHeld=>?_)
    ·exact SD.out _ (fun b _ _=>rfl)
    obtain ⟨wz,hwz⟩:∃wz,w9.drew=wz:=⟨_,rfl⟩
    obtain ⟨s1,s2,s3,s4,g1,g2,g3,g4,⟨p0,p1,p2,p3⟩,⟨f0,f1,f2,f3⟩,hq,HZ⟩:=mny_ret (w:=w) (wr:=wz) (r:=fun x=>Lfc.sbR vs (.node kd nm ps ts) x 0) er9 (by rw [←hwz];exact BW9.out.drew) HR9.out (show w.heap.size≤w1.heap.size by omega) (by rw [←hwz];exact QZ.out) (by rw [←hwz];exact HV9.out.keep (w:=w9) (fun _ _ _=>rfl) (zN _) (fun _ _ h=>h))
    have h4:∀b,b<w9.heap.size→b≠w1.heap.size→s4.heap[b]?=w9.heap[b]?:=fun b hb hn=>(mac_oth BW9 g1 g2 g3 g4 b hn).trans (by rw [←hwz];rfl)
    have HQ:=zH hq
    rw [hwz] at hHeld ⊢
    clear hwz hq
    refine tk 0 ?_
    refine tk 1 ?_
    refine tk 2 ?_
    refine tk 3 ?_
    refine tk 4 ?_
    refine rd1 5 (fun K hK=>?_)
    go_simp
    refine hK.out _ _ (SD.out _ h4) (fun hHeld=>nrm ?_)
    clear hK K
    refine tk 6 ?_
    refine wpAnyH_done (by kernel_rfl) ?_ _
    go_wp2_with fail
    refine bodyPost_ret (results_term2 rfl _ _ _ _ _ _ _ rfl HQ.out) rfl ?_
    exact HZ.out
   have hzf:(z6 != 0)=true:=by simpa using hz6
   have hzg:(z6 == 0)=false:=by simpa using hz6
   obtain ⟨s1,s2,s3,s4,g1,g2,g3,g4,⟨p0,p1,p2,p3⟩,⟨f0,f1,f2,f3⟩,hq,HZ⟩:=mny_zero (w:=w) (r:=fun x=>Lfc.sbR vs (.node kd nm ps ts) x 0) z6 (B12.out.trans (HB6.out.mono (by omega))) hz6 (show w.heap.size≤w1.heap.size by omega) ((HB6.out.block _ l2).trans Q2.out)
   have HQ:=zH hq
   clear hq
   go_wp2_with fail
   refine bodyPost_ret (results_term2 rfl _ _ _ _ _ _ _ rfl HQ.out) rfl ?_
   exact HZ.out
  have hzf:(z5 != 0)=true:=by simpa using hz5
  have hzg:(z5 == 0)=false:=by simpa using hz5
  obtain ⟨s1,s2,s3,s4,g1,g2,g3,g4,⟨p0,p1,p2,p3⟩,⟨f0,f1,f2,f3⟩,hq,HZ⟩:=mny_zero (w:=w) (r:=fun x=>Lfc.sbR vs (.node kd nm ps ts) x 0) z5 (B12.out.trans (HB5.out.mono (by omega))) hz5 (show w.heap.size≤w1.heap.size by omega) ((HB5.out.block _ l2).trans Q2.out)
  have HQ:=zH hq
  clear hq
  go_wp2_with fail
  refine bodyPost_ret (results_term2 rfl _ _ _ _ _ _ _ rfl HQ.out) rfl ?_
  exact HZ.out
 have hzf:(z != 0)=true:=by simpa using hz
 have hzg:(z == 0)=false:=by simpa using hz
 obtain ⟨s1,s2,s3,s4,g1,g2,g3,g4,⟨p0,p1,p2,p3⟩,⟨f0,f1,f2,f3⟩,hq,HZ⟩:=mny_zero (w:=w) (r:=fun x=>Lfc.sbR vs (.node kd nm ps ts) x 0) z (B12.out.trans (HB.out.mono (by omega))) hz (show w.heap.size≤w1.heap.size by omega) ((HB.out.block _ l2).trans Q2.out)
 have HQ:=zH hq
 clear hq
 go_wp2_with fail
 refine bodyPost_ret (results_term2 rfl _ _ _ _ _ _ _ rfl HQ.out) rfl ?_
 exact HZ.out
end Go.Proofs.YtadjpadieljjlaaGreat
