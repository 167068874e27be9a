/- Parts of the proof that no input makes the law false: OrFits, OrPathP, OrPath1, OrPath2, TreeP. -/
import Derived.RangeFuncBox
import Derived.WalkSmall
import Derived.Laws.AppendOwn
import Derived.Laws.OwnMore
import Derived.Test.YtadjpadieljjlaaGreatIvAD
set_option linter.unusedVariables false
set_option linter.unusedSimpArgs false
set_option maxRecDepth 100000
set_option maxHeartbeats 32000000
namespace Lfc
def Raw.isO (t:Raw):Bool:=t.obj && t.small
def Raw.fit (ks:List Int) (t:Raw):List Int→Raw→Nat→Bool
 | [],s,cr=>Raw.stands ks cr s t
 | i :: r,.node k n p xs,cr=>if Raw.pas ks cr (.node k n p xs)=false∨i<0∨(xs.length:Int)≤i then false else match xs[i.toNat]? with
  | none=>false
  | some y=>Raw.fit ks t r y (if k=3 then cr+1 else cr)
def Raw.fits (ks:List Int) (t u:Raw) (path:List Int):Bool:=t.isO && u.isO && Raw.fit ks t path u 0
theorem Raw.fit_no {ks:List Int} {t:Raw} {i:Int} {r:List Int} {k p:Int} {n:List UInt8} {xs:List Raw} {cr:Nat} (h:Raw.pas ks cr (.node k n p xs)=false∨i<0∨(xs.length:Int)≤i):Raw.fit ks t (i :: r) (.node k n p xs) cr=false:=by
 rw [Raw.fit,if_pos h]
theorem Raw.fit_go {ks:List Int} {t:Raw} {i:Nat} {r:List Int} {k p:Int} {n:List UInt8} {xs:List Raw} {cr:Nat} (h:Raw.pas ks cr (.node k n p xs)=true) (hi:i<xs.length):Raw.fit ks t ((i:Int) :: r) (.node k n p xs) cr=Raw.fit ks t r xs[i] (if k=3 then cr+1 else cr):=by
 rw [Raw.fit,if_neg (by rintro (h1 | h1 | h1);rw [h] at h1;cases h1;omega;omega),Int.toNat_natCast,List.getElem?_eq_getElem hi]
theorem Raw.obj_args {k p:Int} {n:List UInt8} {xs:List Raw} (h:(Raw.node k n p xs).obj=true) (i:Nat) (hi:i<xs.length):xs[i].obj=true:=by
 rw [Raw.obj] at h
 have:Raw.objs xs=true:=by
  repeat' split at h
  all_goals first | (cases h;done) | (simp at h;exact h.2) | (simp at h;exact h.2.2)
 exact (objs_spec xs).1 this i hi
end Lfc
namespace Go.Proofs.YtadjpadieljjlaaGreat
open Go.RowKit
theorem tIsO_any (t:Lfc.Raw) (v:Value) (w:World) (hsz:t.size≤1000000) (hv:TreeV w t v) :
  Calls Tryz.prog 43 #[v] w fun e w'=>e=.returned (.bool t.isO)∧Below w.heap.size w w':=by
 have HT:=zH (show t.isO=(t.obj && t.small) from rfl)
 have HV:=zH hv
 obtain ⟨A,c,kd,nm,ps,ts,hT,rfl⟩:∃A c kd nm ps ts,t=.node kd nm ps ts∧v=.agg #[.int .i64 kd,S nm,.int .i64 ps,.slice A (List.length ts) c]:=by
  obtain ⟨kd,nm,ps,ts⟩:=t
  obtain ⟨A,c,rfl,hc,hA⟩:=hv.open_
  exact ⟨A,c,kd,nm,ps,ts,rfl,rfl⟩
 clear hT hv
 obtain ⟨w1,hw1⟩:∃w1,w.alloc (.cells #[.int .i64 kd,S nm,.int .i64 ps,.slice A ts.length c] 51)=w1:=⟨_,rfl⟩
 have b01:=zG hw1
 have q1:=zQ hw1
 have s01:=b01.size
 obtain ⟨y0,y1,y2,y3⟩:=cells4t q1
 have Q1:=zH q1
 have CO:=zH (tObj_upto _ (by omega) t _ w1 (zN _) (HV.out.below b01))
 have CS:=zH (fun W (hW:Below w1.heap.size w1 W)=>tSmall_any t _ W (by omega) (HV.out.below (b01.trans (hW.mono b01.size))))
 rw [HT.out]
 clear HT q1
 generalize t.obj=qo at *
 generalize t.small=qs at *
 cases qo
 ·go_enter Tryz.func43,Tryz.ntmps43
  go_wp2_with fail
  refine CO.out.mono ?_
  rintro e w2 ⟨rfl,b2⟩
  go_wp2_with fail
  go_ret
  exact ⟨rfl,b01.trans (b2.mono s01)⟩
 go_enter Tryz.func43,Tryz.ntmps43
 go_wp2_with fail
 refine CO.out.mono ?_
 rintro e w2 ⟨rfl,b2⟩
 obtain ⟨y0,y1,y2,y3⟩:=cells4t ((b2.block _ (zL Q1.out)).trans Q1.out)
 go_wp2_with fail
 refine (CS.out _ b2).mono ?_
 rintro e w3 ⟨rfl,b3⟩
 cases qs
 all_goals
  go_wp2_with fail
  go_ret
  exact ⟨rfl,b01.trans ((b2.trans (b3.mono b2.size)).mono s01)⟩
structure FitI (w w0:World) (Bt Bu:Nat) (ks:List Int) (t:Lfc.Raw) (path:List Int) (tot:Bool) (top j cr:Nat) (kd ps:Int) (nm:List UInt8) (xs:List Lfc.Raw) (A:Option Addr) (c:Nat) (wr:World):Prop where
 fit:tot=Lfc.Raw.fit ks t (path.drop j) (.node kd nm ps xs) cr
 box:wr.heap[Bu]?=some (.cells #[.int .i64 kd,S nm,.int .i64 ps,.slice A xs.length c] 51 (0,0))
 v:TreeV w (.node kd nm ps xs) (.agg #[.int .i64 kd,S nm,.int .i64 ps,.slice A xs.length c])
 obj:(Lfc.Raw.node kd nm ps xs).obj=true
 size:(Lfc.Raw.node kd nm ps xs).size≤top
 oth:Oth Bu w0 wr
theorem oFits_any (t u:Lfc.Raw) (vt vu:Value) (path:List Int) (A1:Option Addr) (c1:Nat) (ks:List Int) (A0:Option Addr) (c0:Nat) (w:World) (hpl:path.length≤1000000) (hks:ks.length≤1000000) (ht:t.size≤1000000) (hu:u.size≤1000000) (hA1:IntsO w A1 path) (hA0:IntsO w A0 ks) (hv:TreeV w t vt) (hv':TreeV w u vu) :
  Calls Tryz.prog 32 #[vt,vu,.slice A1 path.length c1,.slice A0 ks.length c0] w fun e w'=>e=.returned (.bool (Lfc.Raw.fits ks t u path))∧Below w.heap.size w w':=by
 have HV:=zH hv
 have HV':=zH hv'
 have HF:Hid (Lfc.Raw.fits ks t u path=(t.isO && u.isO && Lfc.Raw.fit ks t path u 0)):=zH rfl
 obtain ⟨A,c,kd,nm,ps,xs,hT,rfl⟩:∃A c kd nm ps xs,t=.node kd nm ps xs∧vt=.agg #[.int .i64 kd,S nm,.int .i64 ps,.slice A (List.length xs) c]:=by
  obtain ⟨kd,nm,ps,ts⟩:=t
  obtain ⟨A,c,rfl,hc,hA⟩:=hv.open_
  exact ⟨A,c,kd,nm,ps,ts,rfl,rfl⟩
 obtain ⟨A',c',kd',nm',ps',ys,hU,rfl⟩:∃A c kd nm ps xs,u=.node kd nm ps xs∧vu=.agg #[.int .i64 kd,S nm,.int .i64 ps,.slice A (List.length xs) c]:=by
  obtain ⟨kd,nm,ps,ts⟩:=u
  obtain ⟨A,c,rfl,hc,hA⟩:=hv'.open_
  exact ⟨A,c,kd,nm,ps,ts,rfl,rfl⟩
 obtain ⟨w1,hw1⟩:∃w1,w.alloc (.cells #[.int .i64 kd,S nm,.int .i64 ps,.slice A xs.length c] 51)=w1:=⟨_,rfl⟩
 obtain ⟨w2,hw2⟩:∃w2,w1.alloc (.cells #[.int .i64 kd',S nm',.int .i64 ps',.slice A' ys.length c'] 51)=w2:=⟨_,rfl⟩
 have b1:=zG hw1
 have b2:=zG hw2
 have q1:=zQ hw1
 have q2:=zQ hw2
 have l1:=zL q1
 have l2:=zL q2
 have b02:Below w.heap.size w w2:=b1.trans (b2.mono (by omega))
 have Q1:=zH ((b2.block _ l1).trans q1)
 have Q2:=zH q2
 have B02:=zH b02
 have HA1:=zH hA1
 have HA0:=zH hA0
 have HT:=zH hT
 have HU:=zH hU
 have s02:w.heap.size≤w2.heap.size:=by omega
 obtain ⟨y0,y1,y2,y3⟩:=cells4t Q1.out
 have CT:=zH (tIsO_any t _ w2 ht (HV.out.below b02))
 have CU:=zH (fun W (hW:Below w2.heap.size w2 W)=>tIsO_any u _ W hu (HV'.out.below (b02.trans (hW.mono s02))))
 have HOT:Hid (t.isO=true→t.obj=true):=zH (fun h=>by rw [Lfc.Raw.isO,Bool.and_eq_true] at h;exact h.1)
 have HOU:Hid (u.isO=true→u.obj=true):=zH (fun h=>by rw [Lfc.Raw.isO,Bool.and_eq_true] at h;exact h.1)
 rw [HF.out]
 clear HF hT hU hv hv' hA0 hA1 b1 b2 q1 q2 b02
 obtain ⟨qt,hqt⟩:∃qt,t.isO=qt:=⟨_,rfl⟩
 obtain ⟨qu,hqu⟩:∃qu,u.isO=qu:=⟨_,rfl⟩
 rw [hqt] at CT HOT ⊢
 rw [hqu] at CU HOU ⊢
 clear hqt hqu
 cases qt
 ·have HE:Hid ((false && qu && Lfc.Raw.fit ks t path u 0)=false):=zH rfl
  rw [HE.out]
  go_enter Tryz.func32,Tryz.ntmps32
  go_wp2_with fail
  refine CT.out.mono ?_
  rintro e w3 ⟨rfl,b3⟩
  go_wp2_with fail
  go_ret
  exact ⟨rfl,B02.out.trans (b3.mono s02)⟩
 have HOT2:=zH (HOT.out rfl)
 clear HOT
 cases qu
 ·have HE:Hid ((true && false && Lfc.Raw.fit ks t path u 0)=false):=zH rfl
  rw [HE.out]
  go_enter Tryz.func32,Tryz.ntmps32
  go_wp2_with fail
  refine CT.out.mono ?_
  rintro e w3 ⟨rfl,b3⟩
  clear y0 y1 y2 y3
  obtain ⟨z0,z1,z2,z3⟩:=cells4t ((b3.block _ l2).trans Q2.out)
  go_wp2_with fail
  refine (CU.out _ b3).mono ?_
  rintro e w4 ⟨rfl,b4'⟩
  have b4:=b3.trans (b4'.mono b3.size)
  clear b4' z0 z1 z2 z3
  have s4:=b4.size
  have B4:=zH b4
  go_wp2_with fail
  go_ret
  exact ⟨rfl,B02.out.trans (b4.mono s02)⟩
 have HE:Hid ((true && true && Lfc.Raw.fit ks t path u 0)=Lfc.Raw.fit ks t path u 0):=zH rfl
 have HOU2:=zH (HOU.out rfl)
 clear HOU
 rw [HE.out]
 obtain ⟨tot,htot⟩:∃tot,Lfc.Raw.fit ks t path u 0=tot:=⟨_,rfl⟩
 rw [htot]
 have HTOT:=zH htot
 clear htot
 go_enter Tryz.func32,Tryz.ntmps32
 go_wp2_with fail
 refine CT.out.mono ?_
 rintro e w3 ⟨rfl,b3⟩
 clear y0 y1 y2 y3
 obtain ⟨z0,z1,z2,z3⟩:=cells4t ((b3.block _ l2).trans Q2.out)
 go_wp2_with fail
 refine (CU.out _ b3).mono ?_
 rintro e w4 ⟨rfl,b4'⟩
 have b4:=b3.trans (b4'.mono b3.size)
 clear b4' z0 z1 z2 z3
 have s4:=b4.size
 have B4:=zH b4
 have I0:Hid (FitI w w4 w.heap.size w1.heap.size ks t path tot u.size 0 0 kd' ps' nm' ys A' c' w4):=zH ⟨by rw [List.drop_zero,←HU.out];exact HTOT.out.symm,(b4.block _ l2).trans Q2.out,by rw [←HU.out];exact HV'.out,by rw [←HU.out];exact HOU2.out,by rw [←HU.out];exact zN _,Oth.refl _ _⟩
 have Q4:=zH ((b4.block _ (by omega)).trans Q1.out)
 have HW4:=zH (B02.out.trans (b4.mono s02))
 clear b4 b3
 go_wp2_with fail
 go_loopw [9,22] (fun x i wr=>∃ (j cr:Nat) (kq pq:Int) (nq:List UInt8) (zs:List Lfc.Raw) (Aq:Option Addr) (cq:Nat),j≤path.length∧cr≤j∧x=.int .i64 (cr:Int)∧i=.int .i64 (j:Int)∧Hid (FitI w w4 w.heap.size w1.heap.size ks t path tot u.size j cr kq pq nq zs Aq cq wr)) (fun x i _=>path.length-(intOf i).toNat)
 case atStart=>exact ⟨0,0,kd',ps',nm',ys,A',c',by omega,by omega,rfl,rfl,I0⟩
 clear I0
 obtain ⟨j,cr,kq,pq,nq,zs,Aq,cq,hj,hcr,rfl,rfl,HI⟩:=hrel
 have hsw:=HI.out.oth.size
 have hbw:Below w.heap.size w wr:=Oth.below HW4.out HI.out.oth (by omega) (by omega)
 have HBW:=zH hbw
 obtain ⟨z0,z1,z2,z3⟩:=cells4t HI.out.box
 by_cases hlt:j<path.length
 ·obtain ⟨b,o,rfl,hb,hx⟩:=HA1.out (by intro h0;rw [h0] at hlt;simp at hlt)
  have hx1:=(hbw.cell (p:=⟨b,o+j,none⟩) hb).trans (hx j hlt)
  have hi0:(0:Int)≤(j:Int):=Int.natCast_nonneg _
  have hi1:(j:Int)<(path.length:Int):=by omega
  have hgd:path.getD j 0=path[j]:=by rw [List.getD_eq_getElem?_getD,List.getElem?_eq_getElem hlt];rfl
  have HDR:=zH (HI.out.fit.trans (by rw [List.drop_eq_getElem_cons hlt]:_=Lfc.Raw.fit ks t (path[j] :: path.drop (j+1)) (.node kq nq pq zs) cr))
  rw [hgd] at hx1
  obtain ⟨z,hz⟩:∃z,path[j]=z:=⟨_,rfl⟩
  rw [hz] at hx1 HDR
  have CP:=zH (oPasses_any ks A0 c0 cr _ _ wr (by omega) hks (HA0.out.below hbw) (HI.out.v.below hbw) HI.out.obj)
  obtain ⟨pb,hpb⟩:∃pb,Lfc.Raw.pas ks cr (.node kq nq pq zs)=pb:=⟨_,rfl⟩
  rw [hpb] at CP
  have HPB:=zH hpb
  clear hx hgd hz hpb hbw
  go_wp2_with fail
  refine CP.out.mono ?_
  rintro e w5 ⟨rfl,b5⟩
  clear z0 z1 z2 z3
  have B5:=zH b5
  have hq5:=(b5.block _ (zL HI.out.box)).trans HI.out.box
  have O5:=zH (HI.out.oth.trans (Oth.of_below b5))
  have hs5:=b5.size
  have hbw5:=HBW.out.trans (b5.mono HBW.out.size)
  obtain ⟨z0,z1,z2,z3⟩:=cells4t hq5
  cases pb
  ·have HN:Hid (tot=false):=zH (HDR.out.trans (Lfc.Raw.fit_no (.inl HPB.out)))
   clear HDR hq5 b5
   go_wp2_with fail
   go_ret
   exact ⟨by rw [HN.out];rfl,hbw5⟩
  by_cases hz0:z<0
  ·have HN:Hid (tot=false):=zH (HDR.out.trans (Lfc.Raw.fit_no (.inr (.inl hz0))))
   have hd1:decide (z<0)=true:=by rw [decide_eq_true_eq];exact hz0
   clear HDR hq5 b5
   go_wp2_with fail
   go_ret
   exact ⟨by rw [HN.out];rfl,hbw5⟩
  have hd1:decide (z<0)=false:=by rw [decide_eq_false_iff_not];exact hz0
  by_cases hzl:(zs.length:Int)≤z
  ·have HN:Hid (tot=false):=zH (HDR.out.trans (Lfc.Raw.fit_no (.inr (.inr hzl))))
   have hd2:decide ((zs.length:Int)≤z)=true:=by rw [decide_eq_true_eq];exact hzl
   have hd3:decide (z≥(zs.length:Int))=true:=by rw [decide_eq_true_eq];exact hzl
   clear HDR hq5 b5
   go_wp2_with fail
   go_ret
   exact ⟨by rw [HN.out];rfl,hbw5⟩
  obtain ⟨q,rfl⟩:∃q:Nat,z=q:=⟨z.toNat,by omega⟩
  have hql:q<zs.length:=by omega
  have hd2:decide ((zs.length:Int)≤(q:Int))=false:=by rw [decide_eq_false_iff_not];exact hzl
  have hd3:decide ((q:Int)≥(zs.length:Int))=false:=by rw [decide_eq_false_iff_not];exact hzl
  have hq0:(0:Int)≤(q:Int):=Int.natCast_nonneg _
  have hq1:(q:Int)<(zs.length:Int):=by omega
  obtain ⟨b',o',k2,n2,p2,us,B',cc2,rfl,hb',ht',e0,e1,e2,e3,hcu',hB',hT'⟩:=HI.out.v.parts.1.at_ hql
  have f0:=(hbw5.cell (p:=⟨b',o'+q*4,none⟩) hb').trans e0
  have f1:=(hbw5.cell (p:=⟨b',o'+q*4+1,none⟩) hb').trans e1
  have f2:=(hbw5.cell (p:=⟨b',o'+q*4+2,none⟩) hb').trans e2
  have f3:=(hbw5.cell (p:=⟨b',o'+q*4+3,none⟩) hb').trans e3
  obtain ⟨s1,s2,s3,s4,g1,g2,g3,g4,⟨r0,r1,r2,r3⟩,⟨t0,t1,t2,t3⟩,hq6,ho6⟩:=tput4 hq5 (.int .i64 k2) (S n2) (.int .i64 p2) (.slice B' us.length cc2)
  have hmem:=Lfc.Raw.sizes_mem zs zs[q] (List.getElem_mem _)
  have hobj:=Lfc.Raw.obj_args HI.out.obj q hql
  have hszq:=HI.out.size
  rw [Lfc.Raw.size] at hszq
  have HN:∀cr2,cr2=(if kq=3 then cr+1 else cr)→Hid (FitI w w4 w.heap.size w1.heap.size ks t path tot u.size (j+1) cr2 k2 p2 n2 us B' cc2 s4):=fun cr2 h2=>zH (by
   refine ⟨?_,hq6,by rw [←ht'];exact hT',by rw [←ht'];exact hobj,by rw [←ht'];omega,O5.out.trans ho6⟩
   rw [HDR.out,Lfc.Raw.fit_go HPB.out hql,ht',h2])
  have HN2:=zH HN
  clear HN hq6 ho6 hobj hszq hmem hB' hT' ht' e0 e1 e2 e3 HDR hq5 b5 hz0 hzl
  by_cases hk3:kq=3
  ·have hkb:(kq == 3)=true:=by simp [hk3]
   have hwc:IntKind.i64.wrap ((cr:Int)+1)=((cr+1:Nat):Int):=by rw [IntWalk.i64_in _ (by omega)];omega
   have HN3:=HN2.out (cr+1) (by rw [if_pos hk3])
   clear HN2 hk3
   go_wp2_with fail
   go_roundw
   case rel=>exact ⟨j+1,cr+1,k2,p2,n2,us,B',cc2,by omega,by omega,rfl,by go_num,HN3⟩
   case measure=>simp [intOf];omega
  have hkb:(kq == 3)=false:=by simp [hk3]
  have HN3:=HN2.out cr (by rw [if_neg hk3])
  clear HN2 hk3
  go_wp2_with fail
  go_roundw
  case rel=>exact ⟨j+1,cr,k2,p2,n2,us,B',cc2,by omega,by omega,rfl,by go_num,HN3⟩
  case measure=>simp [intOf];omega
 obtain rfl:j=path.length:=by omega
 obtain ⟨y0,y1,y2,y3⟩:=cells4t (HI.out.oth.heap Q4.out (show w.heap.size≠w1.heap.size by omega))
 have HE2:Hid (tot=Lfc.Raw.stands ks cr (.node kq nq pq zs) t):=zH (by rw [HI.out.fit,List.drop_length,Lfc.Raw.fit])
 have CS:=zH (oStands_any (.node kq nq pq zs) t _ _ cr ks A0 c0 wr (by omega) hks (by have:=HI.out.size;omega) HI.out.obj HOT2.out (HA0.out.below hbw) (HI.out.v.below hbw) (HV.out.below hbw))
 rw [←HE2.out] at CS
 clear HI
 go_wp2_with fail
 refine CS.out.mono ?_
 rintro e w5 ⟨rfl,b5⟩
 go_wp2_with fail
 go_ret
 exact ⟨rfl,HBW.out.trans (b5.mono HBW.out.size)⟩
end Go.Proofs.YtadjpadieljjlaaGreat
namespace Lfc
mutual
def Raw.pth (ks:List Int) (t:Raw):Raw→Nat→Option (List Int)
 | .node k n p xs,cr=>if Raw.stands ks cr (.node k n p xs) t=true then some [] else if Raw.pas ks cr (.node k n p xs)=false then none else Raw.pths ks t xs (if k=3 then cr+1 else cr) 0
def Raw.pths (ks:List Int) (t:Raw):List Raw→Nat→Int→Option (List Int)
 | [],_,_=>none
 | a :: r,cr,i=>match Raw.pth ks t a cr with
  | some q=>some (i :: q)
  | none=>Raw.pths ks t r cr (i+1)
end
def Raw.path (ks:List Int) (t u:Raw):Option (List Int):=if t.isO && u.isO then Raw.pth ks t u 0 else none
theorem pths_drop {ks:List Int} {t:Raw} {cr:Nat} {xs:List Raw} {j:Nat} (h:j<xs.length) :
  Raw.pths ks t (xs.drop j) cr (j:Int)=match Raw.pth ks t xs[j] cr with | some q=>some ((j:Int) :: q) | none=>Raw.pths ks t (xs.drop (j+1)) cr ((j+1:Nat):Int):=by
 rw [List.drop_eq_getElem_cons h,Raw.pths]
 rfl
end Lfc
namespace Go.Proofs.YtadjpadieljjlaaGreat
open Go.RowKit
theorem enters_path:∀args w,(callFunc 44 args).run Tryz.prog w=.ok (.enter 44 args) w:=enters_of Tryz.func44 (by kernel_rfl) rfl
theorem ownBlock_slice (A:Option Addr) (n c:Nat):(Value.slice A n c).ownBlock=A.map (·.block):=by cases A <;> rfl
structure PtK (B:Nat) (W:World) (A:Option Addr) (w':World) (A':Option Addr):Prop where
 blk:A'.map (·.block)=A.map (·.block)∨∃g,A'.map (·.block)=some g∧W.heap.size≤g
 kept:∀b,b<W.heap.size→b≠B→some b≠A.map (·.block)→w'.heap[b]?=W.heap[b]?
 size:W.heap.size≤w'.heap.size
theorem PtK.refl (B:Nat) (W:World) (A:Option Addr):PtK B W A W A:=⟨.inl rfl,fun _ _ _ _=>rfl,zN _⟩
theorem PtK.trans {B:Nat} {W w1 w2:World} {A A1 A2:Option Addr} (h:PtK B W A w1 A1) (k:PtK B w1 A1 w2 A2):PtK B W A w2 A2:=by
 refine ⟨?_,fun b hb hB hA=>?_,Nat.le_trans h.size k.size⟩
 ·rcases k.blk with e | ⟨g,e,hg⟩
  ·rw [e];exact h.blk
  exact .inr ⟨g,e,Nat.le_trans h.size hg⟩
 rw [k.kept b (Nat.lt_of_lt_of_le hb h.size) hB ?_,h.kept b hb hB hA]
 rcases h.blk with e | ⟨g,e,hg⟩
 ·rw [e];exact hA
 rw [e];intro e2;have:=zO e2;omega
theorem PtK.wide {B:Nat} {W w':World} (A:Option Addr) (h:Below W.heap.size W w'):PtK B W A w' A:=⟨.inl rfl,fun b hb _ _=>h.block b hb,h.size⟩
theorem PtK.set {B:Nat} {W:World} (A:Option Addr) (v:Value):PtK B W A (W.setCell ⟨B,0,none⟩ v) A :=
 ⟨.inl rfl,fun b _ hB _=>Below.heap_setCell _ _ _ _ hB,by simp [World.setCell]⟩
theorem PtK.grown {B:Nat} {W w':World} {A A':Option Addr} (hg:W.grownBy w' (A.map (·.block))) (hA:A'.map (·.block)=A.map (·.block)∨A'.map (·.block)=some W.heap.size):PtK B W A w' A' :=
 ⟨hA.imp id (fun e=>⟨_,e,zN _⟩),fun b hb _ h=>hg.block b hb h,hg.size⟩
structure PtS (w0:World) (ks:List Int) (A0:Option Addr) (c0:Nat) (kt pt:Int) (nt:List UInt8) (At:Option Addr) (lt ct B1 B2 B3 B4 base:Nat) (W:World) (path:List Int) (A:Option Addr) (c:Nat):Prop where
 below:Below w0.heap.size w0 W
 b1:W.heap[B1]?=some (.cells #[.int .i64 kt,S nt,.int .i64 pt,.slice At lt ct] 51 (0,0))
 b2:W.heap[B2]?=some (.cells #[.slice A0 ks.length c0] 22 (0,0))
 b3:W.heap[B3]?=some (.cells #[.slice A path.length c] 22 (0,0))
 b4:W.heap[B4]?=some (.cells #[.func (.func 44) #[] #[.pointer (some ⟨B1,0,none⟩),.pointer (some ⟨B2,0,none⟩),.pointer (some ⟨B3,0,none⟩),.pointer (some ⟨B4,0,none⟩)]] 97 (0,0))
 own:W.ownsRow base 3 1 (.slice A path.length c) path.length (ints path)
 n:w0.heap.size≤B3∧B1<base∧B2<base∧B3<base∧B4<base∧B1≠B3∧B2≠B3∧B4≠B3∧base≤W.heap.size
section
variable {w0:World} {ks:List Int} {A0:Option Addr} {c0:Nat} {kt pt:Int} {nt:List UInt8} {At:Option Addr} {lt ct B1 B2 B3 B4 base:Nat} {W w':World} {path:List Int} {A:Option Addr} {c:Nat}
theorem PtS.blk (h:PtS w0 ks A0 c0 kt pt nt At lt ct B1 B2 B3 B4 base W path A c) {g:Nat} (e:A.map (·.block)=some g):base≤g∧g<W.heap.size:=h.own.lt g (by rw [ownBlock_slice];exact e)
theorem PtS.wide (h:PtS w0 ks A0 c0 kt pt nt At lt ct B1 B2 B3 B4 base W path A c) (hb:Below W.heap.size W w'):PtS w0 ks A0 c0 kt pt nt At lt ct B1 B2 B3 B4 base w' path A c:=by
 obtain ⟨n0,n1,n2,n3,n4,n5,n6,n7,n8⟩:=h.n
 have hs:=hb.size
 exact ⟨h.below.trans (hb.mono h.below.size),(hb.block _ (by omega)).trans h.b1,(hb.block _ (by omega)).trans h.b2,(hb.block _ (by omega)).trans h.b3,(hb.block _ (by omega)).trans h.b4,
  h.own.kept (Oth.of_below (T:=B3) hb) (.inr fun e=>by rw [ownBlock_slice] at e;have:=(h.blk e).1;omega),n0,n1,n2,n3,n4,n5,n6,n7,by omega⟩
theorem PtS.push (h:PtS w0 ks A0 c0 kt pt nt At lt ct B1 B2 B3 B4 base W path A c) {x:Int} {A':Option Addr} {c':Nat} (hown:w'.ownsRow base 3 1 (.slice A' (path.length+1) c') (path.length+1) (ints path++[.int .i64 x])) (hg:W.grownBy w' (A.map (·.block))) :
  PtS w0 ks A0 c0 kt pt nt At lt ct B1 B2 B3 B4 base (w'.setCell ⟨B3,0,none⟩ (.slice A' (path.length+1) c')) (path++[x]) A' c':=by
 obtain ⟨n0,n1,n2,n3,n4,n5,n6,n7,n8⟩:=h.n
 have hs:=hg.size
 have hk:∀b,b<base→b≠B3→(w'.setCell ⟨B3,0,none⟩ (.slice A' (path.length+1) c')).heap[b]?=W.heap[b]?:=fun b hb hB=>by
  rw [Below.heap_setCell _ _ _ _ hB]
  exact hg.block b (by omega) (fun e=>by have:=(h.blk e.symm).1;omega)
 have hb0:w0.heap.size≤base:=by omega
 have e1:(path++[x]).length=path.length+1:=by simp
 refine ⟨⟨hg.os.trans h.below.os,hg.tape.trans h.below.tape,hg.output.trans h.below.output,by simp [World.setCell];exact Nat.le_trans h.below.size hs,fun b hb=>?_⟩,(hk _ n1 n5).trans h.b1,(hk _ n2 n6).trans h.b2,?_,(hk _ n4 n7).trans h.b4,?_,n0,n1,n2,n3,n4,n5,n6,n7,by simp [World.setCell];omega⟩
 ·rw [hk b (by omega) (by omega)];exact h.below.block b hb
 ·have h3:w'.heap[B3]?=some (.cells #[.slice A path.length c] 22 (0,0)):=(hg.block B3 (by omega) (fun e=>by have:=(h.blk e.symm).1;omega)).trans h.b3
  rw [e1]
  simp [World.setCell,Array.getElem?_modify,h3]
 rw [e1]
 have e2:ints (path++[x])=ints path++[.int .i64 x]:=by simp [ints]
 rw [e2]
 exact ownsRow_setCell_other hown (fun e=>by have:=(hown.lt B3 e).1;omega) _
theorem PtS.pop {x:Int} (h:PtS w0 ks A0 c0 kt pt nt At lt ct B1 B2 B3 B4 base W (path++[x]) A c):PtS w0 ks A0 c0 kt pt nt At lt ct B1 B2 B3 B4 base (W.setCell ⟨B3,0,none⟩ (.slice A path.length c)) path A c:=by
 obtain ⟨n0,n1,n2,n3,n4,n5,n6,n7,n8⟩:=h.n
 have e1:(path++[x]).length=path.length+1:=by simp
 have hown:=h.own
 rw [e1] at hown
 obtain ⟨g,cap,hv⟩:=ownsRow_succ hown
 injection hv with ha _ hc
 subst ha hc
 have hk:∀b,b≠B3→(W.setCell ⟨B3,0,none⟩ (.slice (some ⟨g,0,none⟩) path.length c)).heap[b]?=W.heap[b]?:=fun b hB=>Below.heap_setCell _ _ _ _ hB
 have e2:ints (path++[x])=ints path++[.int .i64 x]:=by simp [ints]
 rw [e2] at hown
 have hp:W.ownsRow base 3 1 (.slice (some ⟨g,0,none⟩) path.length c) path.length (ints path):=ownsRow_pop (last:=[.int .i64 x]) (by simp [ints]) hown
 refine ⟨⟨h.below.os,h.below.tape,h.below.output,by simp [World.setCell];exact h.below.size,fun b hb=>by rw [hk b (by omega)];exact h.below.block b hb⟩,(hk _ n5).trans h.b1,(hk _ n6).trans h.b2,?_,(hk _ n7).trans h.b4,ownsRow_setCell_other hp (fun e=>by have:=(hp.lt B3 e).1;omega) _,n0,n1,n2,n3,n4,n5,n6,n7,by simp [World.setCell];omega⟩
 have h3:=h.b3
 simp [World.setCell,Array.getElem?_modify,h3]
end
end Go.Proofs.YtadjpadieljjlaaGreat
namespace Go.Proofs.YtadjpadieljjlaaGreat
open Go.RowKit Go.Maps
def PtAns (w0:World) (ks:List Int) (A0:Option Addr) (c0:Nat) (kt pt:Int) (nt:List UInt8) (At:Option Addr) (lt ct B1 B2 B3 B4 base:Nat) (W:World) (path:List Int) (A:Option Addr) (r:Option (List Int)) (e:Ending) (w':World):Prop :=
 ∃A' c',PtK B3 W A w' A'∧((r=none∧e=.returned (.bool false)∧PtS w0 ks A0 c0 kt pt nt At lt ct B1 B2 B3 B4 base w' path A' c')∨(∃q,r=some q∧e=.returned (.bool true)∧PtS w0 ks A0 c0 kt pt nt At lt ct B1 B2 B3 B4 base w' (path++q) A' c'))
theorem ptWalk_upto (w0:World) (ks:List Int) (A0:Option Addr) (c0:Nat) (kt pt:Int) (nt:List UInt8) (At:Option Addr) (zs:List Lfc.Raw) (lt ct B1 B2 B3 B4 base:Nat) (t:Lfc.Raw) (hlt:lt=zs.length) (htd:t=.node kt nt pt zs) (hks:ks.length≤1000000) (hA0:IntsO w0 A0 ks) (hto:t.obj=true) (htv:TreeV w0 t (.agg #[.int .i64 kt,S nt,.int .i64 pt,.slice At lt ct])) (m:Nat) (hm:m≤1000000) :
  ∀ (s:Lfc.Raw) (vs:Value) (cr:Nat) (W:World) (path:List Int) (A:Option Addr) (c:Nat),s.size≤m→cr+s.size≤1000000→path.length+s.size≤2000000→s.obj=true→TreeV w0 s vs→PtS w0 ks A0 c0 kt pt nt At lt ct B1 B2 B3 B4 base W path A c →
  Calls Tryz.prog 44 #[vs,.int .i64 (cr:Int),.pointer (some ⟨B1,0,none⟩),.pointer (some ⟨B2,0,none⟩),.pointer (some ⟨B3,0,none⟩),.pointer (some ⟨B4,0,none⟩)] W
   (PtAns w0 ks A0 c0 kt pt nt At lt ct B1 B2 B3 B4 base W path A (Lfc.Raw.pth ks t s cr)):=by
 induction m with
 | zero=>intro s vs cr W path A c h;have:=s.size_pos;omega
 | succ m ih =>
  intro s vs cr W path A c hsz hcs hps hso hv hS
  have he:=enters_path
  have HV:=zH hv
  have HSO:=zH hso
  obtain ⟨kd,nm,ps,xs⟩:=s
  obtain ⟨As,cs,rfl,hc,hA⟩:=hv.open_
  simp only [Lfc.Raw.size] at hsz hcs hps
  have hlen:=Lfc.Raw.sizes_len xs
  obtain ⟨i0,hi,hz0,hz1,hz2⟩:=info_parts intInfo
  obtain ⟨w1,hw1⟩:∃w1,W.alloc (.cells #[.int .i64 kd,S nm,.int .i64 ps,.slice As xs.length cs] 51)=w1:=⟨_,rfl⟩
  have bW1:=zG hw1
  have q1:=zQ hw1
  have l1:=zL q1
  have hn:=hS.n
  have hH3:W.heap.size≠B3:=by omega
  have hHA:some W.heap.size≠A.map (·.block):=fun e=>by have:=(hS.blk e.symm).2;omega
  have S1:=zH (hS.wide bW1)
  have Q1:=zH q1
  have IH:=zH (ih (by omega))
  have HA:=zH hA
  have HTV0:=zH htv
  obtain ⟨y0,y1,y2,y3⟩:=cells4t q1
  obtain ⟨t0,t1,t2,t3⟩:=cells4t S1.out.b1
  have c2:=zC S1.out.b2 0
  simp at c2
  have CS:=zH (oStands_any (.node kd nm ps xs) t _ _ cr ks A0 c0 w1 (by omega) hks (by rw [Lfc.Raw.size];omega) HSO.out hto (hA0.below S1.out.below) (HV.out.below S1.out.below) (htv.below S1.out.below))
  have CP:=zH (fun w2 (h2:Below w1.heap.size w1 w2)=>oPasses_any ks A0 c0 cr (.node kd nm ps xs) _ w2 (by omega) hks (hA0.below (S1.out.wide h2).below) (HV.out.below (S1.out.wide h2).below) HSO.out)
  obtain ⟨st,hst⟩:∃st,Lfc.Raw.stands ks cr (.node kd nm ps xs) t=st:=⟨_,rfl⟩
  obtain ⟨pa,hpa⟩:∃pa,Lfc.Raw.pas ks cr (.node kd nm ps xs)=pa:=⟨_,rfl⟩
  rw [hst] at CS
  rw [hpa] at CP
  have HS0:=zH hst
  have HP0:=zH hpa
  clear ih hv hA htv hst hpa q1 hso htd
  clear hlt
  cases st
  ·cases pa
   ·have HRES:=zH (show Lfc.Raw.pth ks t (.node kd nm ps xs) cr=none by rw [Lfc.Raw.pth,if_neg (by rw [HS0.out];decide),if_pos HP0.out])
    go_enter Tryz.func44,Tryz.ntmps44
    go_wp2_with fail
    refine CS.out.mono ?_
    rintro e w2 ⟨rfl,b2⟩
    obtain ⟨y0,y1,y2,y3⟩:=cells4t ((b2.block _ l1).trans Q1.out)
    have c2:=zC (S1.out.wide b2).b2 0
    simp at c2
    go_wp2_with fail
    refine (CP.out _ b2).mono ?_
    rintro e w3 ⟨rfl,b3⟩
    have b13:=b2.trans (b3.mono b2.size)
    have HN:Hid (PtAns w0 ks A0 c0 kt pt nt At lt ct B1 B2 B3 B4 base W path A (Lfc.Raw.pth ks t (.node kd nm ps xs) cr) (.returned (.bool false)) w3):=zH ⟨A,c,(PtK.wide A bW1).trans (PtK.wide A b13),.inl ⟨HRES.out,rfl,S1.out.wide b13⟩⟩
    go_wp2_with fail
    go_ret
    exact HN.out
   go_enter Tryz.func44,Tryz.ntmps44
   go_wp2_with fail
   refine CS.out.mono ?_
   rintro e w2 ⟨rfl,b2⟩
   clear y0 y1 y2 y3 c2 t0 t1 t2 t3
   obtain ⟨y0,y1,y2,y3⟩:=cells4t ((b2.block _ l1).trans Q1.out)
   have c2:=zC (S1.out.wide b2).b2 0
   simp at c2
   go_wp2_with fail
   refine (CP.out _ b2).mono ?_
   rintro e w3 ⟨rfl,b3⟩
   have b13:=b2.trans (b3.mono b2.size)
   have SB:=S1.out.wide b13
   clear y0 y1 y2 y3 c2 b2 b3 CS CP hw1
   obtain ⟨y0,y1,y2,y3⟩:=cells4t ((b13.block _ l1).trans Q1.out)
   by_cases hk3:kd=3
   ·have hkb:(kd == 3)=true:=by simp [hk3]
    have hwc:IntKind.i64.wrap ((cr:Int)+1)=((cr+1:Nat):Int):=by rw [IntWalk.i64_in _ (by omega)];omega
    have HRES:=zH (show Lfc.Raw.pth ks t (.node kd nm ps xs) cr=Lfc.Raw.pths ks t xs (cr+1) 0 by rw [Lfc.Raw.pth,if_neg (by rw [HS0.out];decide),if_neg (by rw [HP0.out];decide),if_pos hk3])
    clear HS0 HP0 hk3
    go_wp2_with fail
    go_loopw [25] (fun i wr=>∃ (j:Nat) (A':Option Addr) (c':Nat),j≤xs.length∧i=.int .i64 (j:Int)∧Hid (Lfc.Raw.pths ks t xs (cr+1) 0=Lfc.Raw.pths ks t (xs.drop j) (cr+1) (j:Int))∧Hid (PtS w0 ks A0 c0 kt pt nt At lt ct B1 B2 B3 B4 base wr path A' c')∧Hid (PtK B3 w1 A wr A')) (fun i _=>xs.length-(intOf i).toNat)
    case atStart=>exact ⟨0,A,c,by omega,rfl,zH rfl,zH SB,zH (PtK.wide A b13)⟩
    obtain ⟨j,Ar,cr',hj,rfl,HQ,HS,HK⟩:=hrel
    have hsr:=HK.out.size
    have hqr:=(HK.out.kept W.heap.size l1 hH3 hHA).trans Q1.out
    obtain ⟨y0,y1,y2,y3⟩:=cells4t hqr
    by_cases hlt:j<xs.length
    ·obtain ⟨b,o,k1,n1,p1,us,B,cc1,rfl,hb,ht,d0,d1,d2,d3,hcu,hB,hT⟩:=HA.out.at_ hlt
     have hbw:=HS.out.below
     have f0:=(hbw.cell (p:=⟨b,o+j*4,none⟩) hb).trans d0
     have f1:=(hbw.cell (p:=⟨b,o+j*4+1,none⟩) hb).trans d1
     have f2:=(hbw.cell (p:=⟨b,o+j*4+2,none⟩) hb).trans d2
     have f3:=(hbw.cell (p:=⟨b,o+j*4+3,none⟩) hb).trans d3
     have hi0:(0:Int)≤(j:Int):=Int.natCast_nonneg _
     have hi1:(j:Int)<(xs.length:Int):=by omega
     have hmem:=Lfc.Raw.sizes_mem xs xs[j] (List.getElem_mem _)
     obtain ⟨wa,hwa⟩:∃wa,wr.alloc (.cells #[.int .i64 k1,S n1,.int .i64 p1,.slice B us.length cc1] 51)=wa:=⟨_,rfl⟩
     have ba:=zG hwa
     have qa:=zQ hwa
     have la:=zL qa
     have SA:=zH (HS.out.wide ba)
     have HB0:Hid (∀g,Ar.map (·.block)=some g→g<wr.heap.size):=zH (fun g e=>(HS.out.blk e).2)
     have KA:=zH (HK.out.trans (PtK.wide Ar ba))
     have QA:=zH qa
     have HQ2:=zH (HQ.out.trans (Lfc.pths_drop hlt))
     have HWA:=zH hwa
     have HTV:=zH hT
     have z3:=zC SA.out.b3 0
     simp at z3
     have hnb:=SA.out.n
     have hlm:path.length+1≤maxLen:=by unfold maxLen;omega
     have hl8:(path.length+1)*8≤140737488355328:=by omega
     clear hwa ba qa HQ HS hT hB ht d0 d1 d2 d3 hbw
     go_upto_region 8 with fail
     rw [HWA.out]
     clear HWA f0 f1 f2 f3
     go_wp2_with (at_builtin;refine wpList_append_own_at _ rfl _ _ 22 rfl base 3 i0 (.int .i64 0) 1 8 Tryz.underlying22 hi hz0 hz1 hz2 rfl (by decide) _ _ _ rfl (SA.out.own.alloc _) ⟨wa.heap.size,0,none⟩ 1 1 [.int .i64 (j:Int)] rfl rfl (fun jj v hj=>ocells_new wa _ rfl [.int .i64 (j:Int)] 3 jj v hj) (by intro v hv;simp at hv;subst hv;rfl) hlm hl8 (by simp;omega) ?_)
     intro v9 w9 hown9 hg9 _ hloc9
     obtain ⟨A9,c9,rfl⟩:=oform hown9
     have hg:wa.grownBy w9 (Ar.map (·.block)):=by
      have h:=hg9
      rw [ownBlock_slice] at h
      exact ⟨h.os,h.tape,h.output,by have:=h.size;simp at this;omega,fun b hb hne=>(h.block b (by simp;omega) hne).trans (zA _ _ _ hb)⟩
     have hs9:=hg.size
     have hB3a:some B3≠Ar.map (·.block):=fun e=>by have:=(SA.out.blk e.symm).1;omega
     have hb39:=(hg.block B3 (by omega) hB3a).trans SA.out.b3
     have z9:=zC hb39 0
     have f9:=zF hb39 0
     simp at z9
     have hS9:=SA.out.push (x:=(j:Int)) hown9 hg
     have K9:PtK B3 wa Ar (w9.setCell ⟨B3,0,none⟩ (.slice A9 (path.length+1) c9)) A9:=by
      refine PtK.trans (w1:=w9) (A1:=A9) ⟨?_,fun b hb _ h=>hg.block b hb h,hs9⟩ (PtK.set A9 _)
      rcases hloc9 with e | e
      ·rw [ownBlock_slice,ownBlock_slice] at e;exact .inl e
      rw [ownBlock_slice] at e;exact .inr ⟨_,e,by simp⟩
     obtain ⟨w11,hw11⟩:∃w11,w9.setCell ⟨B3,0,none⟩ (.slice A9 (path.length+1) c9)=w11:=⟨_,rfl⟩
     rw [hw11] at hS9 K9
     have S11:=zH hS9
     have K11:=zH (KA.out.trans K9)
     have hwra:some wr.heap.size≠Ar.map (·.block):=fun e=>by have:=(SA.out.blk e.symm).1;have:=HB0.out _ e.symm;omega
     have q11:=(K9.kept wr.heap.size la (by omega) hwra).trans QA.out
     obtain ⟨x0,x1,x2,x3⟩:=cells4t q11
     have h11:=(K11.out.kept W.heap.size l1 hH3 hHA).trans Q1.out
     clear y0 y1 y2 y3
     obtain ⟨y0,y1,y2,y3⟩:=cells4t h11
     have c4:=zC S11.out.b4 0
     simp at c4
     have CALL:=zH (IH.out xs[j] _ (cr+1) w11 (path++[(j:Int)]) A9 c9 (by omega) (by omega) (by simp;omega) (Lfc.Raw.obj_args HSO.out j hlt) HTV.out S11.out)
     obtain ⟨r,hr⟩:∃r,Lfc.Raw.pth ks t xs[j] (cr+1)=r:=⟨_,rfl⟩
     rw [hr] at CALL HQ2
     clear hr hown9 hg9 hg hb39 hS9 K9 q11 h11 hloc9 hB3a hwra
     go_wp2_with fail
     refine CALL.out.mono ?_
     rintro e w12 ⟨A12,c12,K12,(⟨hn,rfl,S12⟩ | ⟨qq,hq,rfl,S12⟩)⟩
     ·have e12:(path++[(j:Int)]).length=path.length+1:=by simp
      have hb12:=S12.b3
      have hown12:=S12.own
      rw [e12] at hb12 hown12
      obtain ⟨g12,cap12,hv12⟩:=ownsRow_succ hown12
      injection hv12 with ha12 _ hc12
      subst ha12 hc12
      have hcap:path.length+1≤c12:=by
       rcases hown12.2 with ⟨h0,_⟩ | ⟨g',cap',cur',hv',_,_,hnc,_⟩
       ·cases h0
       injection hv' with _ _ e3;omega
      have z12:=zC hb12 0
      have f12:=zF hb12 0
      simp at z12
      have HS12:=zH S12.pop
      have HK12:=zH ((K11.out.trans K12).trans (PtK.set (some ⟨g12,0,none⟩) (.slice (some ⟨g12,0,none⟩) path.length c12)))
      have HQ3:=zH (show Lfc.Raw.pths ks t xs (cr+1) 0=Lfc.Raw.pths ks t (xs.drop (j+1)) (cr+1) ((j+1:Nat):Int) by rw [HQ2.out,hn])
      have hpw:IntKind.i64.wrap ((path.length:Int)+1-1)=(path.length:Int):=by rw [IntWalk.i64_in _ (by omega)];omega
      clear hn K12 S12 hb12 hown12 e12
      go_wp2_with fail
      go_roundw
      case rel=>exact ⟨j+1,some ⟨g12,0,none⟩,c12,by omega,by go_num,HQ3,HS12,HK12⟩
      case measure=>simp [intOf];omega
     have HN:Hid (PtAns w0 ks A0 c0 kt pt nt At lt ct B1 B2 B3 B4 base W path A (Lfc.Raw.pth ks t (.node kd nm ps xs) cr) (.returned (.bool true)) w12):=zH ⟨A12,c12,(PtK.wide A bW1).trans (K11.out.trans K12),.inr ⟨(j:Int) :: qq,by rw [HRES.out,HQ2.out,hq],rfl,by rw [List.append_cons];exact S12⟩⟩
     clear hq K12 S12
     go_wp2_with fail
     go_ret
     exact HN.out
    obtain rfl:j=xs.length:=by omega
    have HN:Hid (PtAns w0 ks A0 c0 kt pt nt At lt ct B1 B2 B3 B4 base W path A (Lfc.Raw.pth ks t (.node kd nm ps xs) cr) (.returned (.bool false)) wr):=zH ⟨Ar,cr',(PtK.wide A bW1).trans HK.out,.inl ⟨by rw [HRES.out,HQ.out,List.drop_length,Lfc.Raw.pths],rfl,HS.out⟩⟩
    clear HQ HS HK
    go_wp2_with fail
    go_ret
    exact HN.out
   have hkb:(kd == 3)=false:=by simp [hk3]
   have HRES:=zH (show Lfc.Raw.pth ks t (.node kd nm ps xs) cr=Lfc.Raw.pths ks t xs cr 0 by rw [Lfc.Raw.pth,if_neg (by rw [HS0.out];decide),if_neg (by rw [HP0.out];decide),if_neg hk3])
   clear HS0 HP0 hk3
   go_wp2_with fail
   go_loopw [25] (fun i wr=>∃ (j:Nat) (A':Option Addr) (c':Nat),j≤xs.length∧i=.int .i64 (j:Int)∧Hid (Lfc.Raw.pths ks t xs cr 0=Lfc.Raw.pths ks t (xs.drop j) cr (j:Int))∧Hid (PtS w0 ks A0 c0 kt pt nt At lt ct B1 B2 B3 B4 base wr path A' c')∧Hid (PtK B3 w1 A wr A')) (fun i _=>xs.length-(intOf i).toNat)
   case atStart=>exact ⟨0,A,c,by omega,rfl,zH rfl,zH SB,zH (PtK.wide A b13)⟩
   obtain ⟨j,Ar,cr',hj,rfl,HQ,HS,HK⟩:=hrel
   have hsr:=HK.out.size
   have hqr:=(HK.out.kept W.heap.size l1 hH3 hHA).trans Q1.out
   obtain ⟨y0,y1,y2,y3⟩:=cells4t hqr
   by_cases hlt:j<xs.length
   ·obtain ⟨b,o,k1,n1,p1,us,B,cc1,rfl,hb,ht,d0,d1,d2,d3,hcu,hB,hT⟩:=HA.out.at_ hlt
    have hbw:=HS.out.below
    have f0:=(hbw.cell (p:=⟨b,o+j*4,none⟩) hb).trans d0
    have f1:=(hbw.cell (p:=⟨b,o+j*4+1,none⟩) hb).trans d1
    have f2:=(hbw.cell (p:=⟨b,o+j*4+2,none⟩) hb).trans d2
    have f3:=(hbw.cell (p:=⟨b,o+j*4+3,none⟩) hb).trans d3
    have hi0:(0:Int)≤(j:Int):=Int.natCast_nonneg _
    have hi1:(j:Int)<(xs.length:Int):=by omega
    have hmem:=Lfc.Raw.sizes_mem xs xs[j] (List.getElem_mem _)
    obtain ⟨wa,hwa⟩:∃wa,wr.alloc (.cells #[.int .i64 k1,S n1,.int .i64 p1,.slice B us.length cc1] 51)=wa:=⟨_,rfl⟩
    have ba:=zG hwa
    have qa:=zQ hwa
    have la:=zL qa
    have SA:=zH (HS.out.wide ba)
    have HB0:Hid (∀g,Ar.map (·.block)=some g→g<wr.heap.size):=zH (fun g e=>(HS.out.blk e).2)
    have KA:=zH (HK.out.trans (PtK.wide Ar ba))
    have QA:=zH qa
    have HQ2:=zH (HQ.out.trans (Lfc.pths_drop hlt))
    have HWA:=zH hwa
    have HTV:=zH hT
    have z3:=zC SA.out.b3 0
    simp at z3
    have hnb:=SA.out.n
    have hlm:path.length+1≤maxLen:=by unfold maxLen;omega
    have hl8:(path.length+1)*8≤140737488355328:=by omega
    clear hwa ba qa HQ HS hT hB ht d0 d1 d2 d3 hbw
    go_upto_region 8 with fail
    rw [HWA.out]
    clear HWA f0 f1 f2 f3
    go_wp2_with (at_builtin;refine wpList_append_own_at _ rfl _ _ 22 rfl base 3 i0 (.int .i64 0) 1 8 Tryz.underlying22 hi hz0 hz1 hz2 rfl (by decide) _ _ _ rfl (SA.out.own.alloc _) ⟨wa.heap.size,0,none⟩ 1 1 [.int .i64 (j:Int)] rfl rfl (fun jj v hj=>ocells_new wa _ rfl [.int .i64 (j:Int)] 3 jj v hj) (by intro v hv;simp at hv;subst hv;rfl) hlm hl8 (by simp;omega) ?_)
    intro v9 w9 hown9 hg9 _ hloc9
    obtain ⟨A9,c9,rfl⟩:=oform hown9
    have hg:wa.grownBy w9 (Ar.map (·.block)):=by
     have h:=hg9
     rw [ownBlock_slice] at h
     exact ⟨h.os,h.tape,h.output,by have:=h.size;simp at this;omega,fun b hb hne=>(h.block b (by simp;omega) hne).trans (zA _ _ _ hb)⟩
    have hs9:=hg.size
    have hB3a:some B3≠Ar.map (·.block):=fun e=>by have:=(SA.out.blk e.symm).1;omega
    have hb39:=(hg.block B3 (by omega) hB3a).trans SA.out.b3
    have z9:=zC hb39 0
    have f9:=zF hb39 0
    simp at z9
    have hS9:=SA.out.push (x:=(j:Int)) hown9 hg
    have K9:PtK B3 wa Ar (w9.setCell ⟨B3,0,none⟩ (.slice A9 (path.length+1) c9)) A9:=by
     refine PtK.trans (w1:=w9) (A1:=A9) ⟨?_,fun b hb _ h=>hg.block b hb h,hs9⟩ (PtK.set A9 _)
     rcases hloc9 with e | e
     ·rw [ownBlock_slice,ownBlock_slice] at e;exact .inl e
     rw [ownBlock_slice] at e;exact .inr ⟨_,e,by simp⟩
    obtain ⟨w11,hw11⟩:∃w11,w9.setCell ⟨B3,0,none⟩ (.slice A9 (path.length+1) c9)=w11:=⟨_,rfl⟩
    rw [hw11] at hS9 K9
    have S11:=zH hS9
    have K11:=zH (KA.out.trans K9)
    have hwra:some wr.heap.size≠Ar.map (·.block):=fun e=>by have:=(SA.out.blk e.symm).1;have:=HB0.out _ e.symm;omega
    have q11:=(K9.kept wr.heap.size la (by omega) hwra).trans QA.out
    obtain ⟨x0,x1,x2,x3⟩:=cells4t q11
    have h11:=(K11.out.kept W.heap.size l1 hH3 hHA).trans Q1.out
    clear y0 y1 y2 y3
    obtain ⟨y0,y1,y2,y3⟩:=cells4t h11
    have c4:=zC S11.out.b4 0
    simp at c4
    have CALL:=zH (IH.out xs[j] _ cr w11 (path++[(j:Int)]) A9 c9 (by omega) (by omega) (by simp;omega) (Lfc.Raw.obj_args HSO.out j hlt) HTV.out S11.out)
    obtain ⟨r,hr⟩:∃r,Lfc.Raw.pth ks t xs[j] cr=r:=⟨_,rfl⟩
    rw [hr] at CALL HQ2
    clear hr hown9 hg9 hg hb39 hS9 K9 q11 h11 hloc9 hB3a hwra
    go_wp2_with fail
    refine CALL.out.mono ?_
    rintro e w12 ⟨A12,c12,K12,(⟨hn,rfl,S12⟩ | ⟨qq,hq,rfl,S12⟩)⟩
    ·have e12:(path++[(j:Int)]).length=path.length+1:=by simp
     have hb12:=S12.b3
     have hown12:=S12.own
     rw [e12] at hb12 hown12
     obtain ⟨g12,cap12,hv12⟩:=ownsRow_succ hown12
     injection hv12 with ha12 _ hc12
     subst ha12 hc12
     have hcap:path.length+1≤c12:=by
      rcases hown12.2 with ⟨h0,_⟩ | ⟨g',cap',cur',hv',_,_,hnc,_⟩
      ·cases h0
      injection hv' with _ _ e3;omega
     have z12:=zC hb12 0
     have f12:=zF hb12 0
     simp at z12
     have HS12:=zH S12.pop
     have HK12:=zH ((K11.out.trans K12).trans (PtK.set (some ⟨g12,0,none⟩) (.slice (some ⟨g12,0,none⟩) path.length c12)))
     have HQ3:=zH (show Lfc.Raw.pths ks t xs cr 0=Lfc.Raw.pths ks t (xs.drop (j+1)) cr ((j+1:Nat):Int) by rw [HQ2.out,hn])
     have hpw:IntKind.i64.wrap ((path.length:Int)+1-1)=(path.length:Int):=by rw [IntWalk.i64_in _ (by omega)];omega
     clear hn K12 S12 hb12 hown12 e12
     go_wp2_with fail
     go_roundw
     case rel=>exact ⟨j+1,some ⟨g12,0,none⟩,c12,by omega,by go_num,HQ3,HS12,HK12⟩
     case measure=>simp [intOf];omega
    have HN:Hid (PtAns w0 ks A0 c0 kt pt nt At lt ct B1 B2 B3 B4 base W path A (Lfc.Raw.pth ks t (.node kd nm ps xs) cr) (.returned (.bool true)) w12):=zH ⟨A12,c12,(PtK.wide A bW1).trans (K11.out.trans K12),.inr ⟨(j:Int) :: qq,by rw [HRES.out,HQ2.out,hq],rfl,by rw [List.append_cons];exact S12⟩⟩
    clear hq K12 S12
    go_wp2_with fail
    go_ret
    exact HN.out
   obtain rfl:j=xs.length:=by omega
   have HN:Hid (PtAns w0 ks A0 c0 kt pt nt At lt ct B1 B2 B3 B4 base W path A (Lfc.Raw.pth ks t (.node kd nm ps xs) cr) (.returned (.bool false)) wr):=zH ⟨Ar,cr',(PtK.wide A bW1).trans HK.out,.inl ⟨by rw [HRES.out,HQ.out,List.drop_length,Lfc.Raw.pths],rfl,HS.out⟩⟩
   clear HQ HS HK
   go_wp2_with fail
   go_ret
   exact HN.out
  have HRES:=zH (show Lfc.Raw.pth ks t (.node kd nm ps xs) cr=some [] by rw [Lfc.Raw.pth,if_pos HS0.out])
  go_enter Tryz.func44,Tryz.ntmps44
  go_wp2_with fail
  refine CS.out.mono ?_
  rintro e w2 ⟨rfl,b2⟩
  have HN:Hid (PtAns w0 ks A0 c0 kt pt nt At lt ct B1 B2 B3 B4 base W path A (Lfc.Raw.pth ks t (.node kd nm ps xs) cr) (.returned (.bool true)) w2):=zH ⟨A,c,(PtK.wide A bW1).trans (PtK.wide A b2),.inr ⟨[],HRES.out,rfl,by rw [List.append_nil];exact S1.out.wide b2⟩⟩
  go_wp2_with fail
  go_ret
  exact HN.out
end Go.Proofs.YtadjpadieljjlaaGreat
namespace Go.Proofs.YtadjpadieljjlaaGreat
open Go.RowKit
theorem own_base {w:World} {b b':Nat} {e:TypeId} {size n:Nat} {v:Value} {xs:List Value} (h:w.ownsRow b e size v n xs) (hb:b'≤b):w.ownsRow b' e size v n xs:=by
 refine ⟨h.1,h.2.imp id ?_⟩
 rintro ⟨g,cap,cur,h1,h2,h3⟩
 exact ⟨g,cap,cur,h1,Nat.le_trans hb h2,h3⟩
def PathAns (w:World) (r:Option (List Int)) (e:Ending) (w':World):Prop :=
 ((r=none∧e=.returned (.tuple #[.slice none 0 0,.bool false]))∨(∃q A c,r=some q∧e=.returned (.tuple #[.slice A q.length c,.bool true])∧q.length≤c∧w'.ownsRow w.heap.size 3 1 (.slice A q.length c) q.length (ints q)))∧Below w.heap.size w w'
theorem oPath_any (t u:Lfc.Raw) (vt vu:Value) (ks:List Int) (A0:Option Addr) (c0:Nat) (w:World) (hks:ks.length≤1000000) (ht:t.size≤1000000) (hu:u.size≤1000000) (hA0:IntsO w A0 ks) (hv:TreeV w t vt) (hv':TreeV w u vu) :
  Calls Tryz.prog 20 #[vt,vu,.slice A0 ks.length c0] w (PathAns w (Lfc.Raw.path ks t u)):=by
 have he:=enters_path
 have HV:=zH hv
 have HV':=zH hv'
 have HP:Hid (Lfc.Raw.path ks t u=if t.isO && u.isO then Lfc.Raw.pth ks t u 0 else none):=zH rfl
 obtain ⟨A,c,kd,nm,ps,xs,hT,rfl⟩:∃A c kd nm ps xs,t=.node kd nm ps xs∧vt=.agg #[.int .i64 kd,S nm,.int .i64 ps,.slice A (List.length xs) c]:=by
  obtain ⟨kd,nm,ps,ts⟩:=t
  obtain ⟨A,c,rfl,hc,hA⟩:=hv.open_
  exact ⟨A,c,kd,nm,ps,ts,rfl,rfl⟩
 obtain ⟨A',c',kd',nm',ps',ys,hU,rfl⟩:∃A c kd nm ps xs,u=.node kd nm ps xs∧vu=.agg #[.int .i64 kd,S nm,.int .i64 ps,.slice A (List.length xs) c]:=by
  obtain ⟨kd,nm,ps,ts⟩:=u
  obtain ⟨A,c,rfl,hc,hA⟩:=hv'.open_
  exact ⟨A,c,kd,nm,ps,ts,rfl,rfl⟩
 obtain ⟨w1,hw1⟩:∃w1,w.alloc (.cells #[.int .i64 kd,S nm,.int .i64 ps,.slice A xs.length c] 51)=w1:=⟨_,rfl⟩
 obtain ⟨w2,hw2⟩:∃w2,w1.alloc (.cells #[.int .i64 kd',S nm',.int .i64 ps',.slice A' ys.length c'] 51)=w2:=⟨_,rfl⟩
 obtain ⟨w3,hw3⟩:∃w3,w2.alloc (.cells #[.slice A0 ks.length c0] 22)=w3:=⟨_,rfl⟩
 have b1:=zG hw1
 have b2:=zG hw2
 have b3:=zG hw3
 have q1:=zQ hw1
 have q2:=zQ hw2
 have q3:=zQ hw3
 have l1:=zL q1
 have l2:=zL q2
 have l3:=zL q3
 have b13:Below w1.heap.size w1 w3:=b2.trans (b3.mono (by omega))
 have b03:Below w.heap.size w w3:=b1.trans (b13.mono (by omega))
 have Q1:=zH ((b13.block _ l1).trans q1)
 have Q2:=zH ((b3.block _ l2).trans q2)
 have Q3:=zH q3
 have B03:=zH b03
 have HA0:=zH hA0
 have HT:=zH hT
 have HU:=zH hU
 have s03:w.heap.size≤w3.heap.size:=by omega
 obtain ⟨y0,y1,y2,y3⟩:=cells4t Q1.out
 have CT:=zH (tIsO_any t _ w3 ht (HV.out.below b03))
 have CU:=zH (fun W (hW:Below w3.heap.size w3 W)=>tIsO_any u _ W hu (HV'.out.below (b03.trans (hW.mono s03))))
 have HOT:Hid (t.isO=true→t.obj=true):=zH (fun h=>by rw [Lfc.Raw.isO,Bool.and_eq_true] at h;exact h.1)
 have HOU:Hid (u.isO=true→u.obj=true):=zH (fun h=>by rw [Lfc.Raw.isO,Bool.and_eq_true] at h;exact h.1)
 rw [HP.out]
 clear HP hT hU hv hv' hA0 b1 b2 b3 q1 q2 q3 b13 b03
 obtain ⟨qt,hqt⟩:∃qt,t.isO=qt:=⟨_,rfl⟩
 obtain ⟨qu,hqu⟩:∃qu,u.isO=qu:=⟨_,rfl⟩
 rw [hqt] at CT HOT ⊢
 rw [hqu] at CU HOU ⊢
 clear hqt hqu
 cases qt
 ·have HE:Hid ((if false && qu then Lfc.Raw.pth ks t u 0 else none)=none):=zH rfl
  rw [HE.out]
  go_enter Tryz.func20,Tryz.ntmps20
  go_wp2_with fail
  refine CT.out.mono ?_
  rintro e w4 ⟨rfl,b4⟩
  go_wp2_with fail
  refine bodyPost_ret (results_tmp2 rfl _ _ _) rfl ?_
  exact ⟨.inl ⟨rfl,rfl⟩,B03.out.trans (b4.mono s03)⟩
 have HOT2:=zH (HOT.out rfl)
 clear HOT
 cases qu
 ·have HE:Hid ((if true && false then Lfc.Raw.pth ks t u 0 else none)=none):=zH rfl
  rw [HE.out]
  go_enter Tryz.func20,Tryz.ntmps20
  go_wp2_with fail
  refine CT.out.mono ?_
  rintro e w4 ⟨rfl,b4⟩
  clear y0 y1 y2 y3
  obtain ⟨y0,y1,y2,y3⟩:=cells4t ((b4.block _ (by omega)).trans Q2.out)
  go_wp2_with fail
  refine (CU.out _ b4).mono ?_
  rintro e w5 ⟨rfl,b5'⟩
  have b5:=b4.trans (b5'.mono b4.size)
  have s5:=b5.size
  clear b5' b4 y0 y1 y2 y3 hw1 hw2 hw3 CU CT
  go_wp2_with fail
  refine bodyPost_ret (results_tmp2 rfl _ _ _) rfl ?_
  exact ⟨.inl ⟨rfl,rfl⟩,B03.out.trans (b5.mono s03)⟩
 have HE:Hid ((if true && true then Lfc.Raw.pth ks t u 0 else none)=Lfc.Raw.pth ks t u 0):=zH rfl
 have HOU2:=zH (HOU.out rfl)
 clear HOU
 rw [HE.out]
 obtain ⟨r,hr⟩:∃r,Lfc.Raw.pth ks t u 0=r:=⟨_,rfl⟩
 rw [hr]
 have HR:=zH hr
 clear hr
 go_enter Tryz.func20,Tryz.ntmps20
 go_wp2_with fail
 refine CT.out.mono ?_
 rintro e w4 ⟨rfl,b4⟩
 clear y0 y1 y2 y3
 obtain ⟨y0,y1,y2,y3⟩:=cells4t ((b4.block _ (by omega)).trans Q2.out)
 go_wp2_with fail
 refine (CU.out _ b4).mono ?_
 rintro e w5 ⟨rfl,b5'⟩
 have b5:=b4.trans (b5'.mono b4.size)
 have s5:=b5.size
 clear b5' b4 y0 y1 y2 y3 hw1 hw2 hw3 CU CT
 obtain ⟨w6,hw6⟩:∃w6,w5.alloc (.cells #[.slice none 0 0] 22)=w6:=⟨_,rfl⟩
 obtain ⟨w7,hw7⟩:∃w7,w6.alloc (.cells #[.func (.func 44) #[] #[.pointer (some ⟨w.heap.size,0,none⟩),.pointer (some ⟨w2.heap.size,0,none⟩),.pointer (some ⟨w5.heap.size,0,none⟩),.pointer (some ⟨w6.heap.size,0,none⟩)]] 97)=w7:=⟨_,rfl⟩
 have b6:=zG hw6
 have b7:=zG hw7
 have q6:=zQ hw6
 have q7:=zQ hw7
 have l6:=zL q6
 have l7:=zL q7
 have b37:Below w3.heap.size w3 w7:=b5.trans ((b6.trans (b7.mono (by omega))).mono s5)
 have SZ:PtS w ks A0 c0 kd ps nm A xs.length c w.heap.size w2.heap.size w5.heap.size w6.heap.size w7.heap.size w7 [] none 0 :=
  ⟨B03.out.trans (b37.mono s03),(b37.block _ (by omega)).trans Q1.out,(b37.block _ l3).trans Q3.out,(b7.block _ l6).trans q6,q7,⟨rfl,.inl ⟨rfl,rfl⟩⟩,by omega⟩
 have CALL:=zH (ptWalk_upto w ks A0 c0 kd ps nm A xs xs.length c _ _ _ _ _ t rfl HT.out hks HA0.out HOT2.out HV.out _ hu u _ 0 w7 [] none 0 (zN _) (by omega) (by simp;omega) HOU2.out HV'.out SZ)
 rw [HR.out] at CALL
 obtain ⟨x0,x1,x2,x3⟩:=cells4t ((b37.block _ (by omega)).trans Q2.out)
 have c4:=zC q7 0
 simp at c4
 have HW7:=zH hw7
 have hs0:w.heap.size≤w7.heap.size:=by omega
 clear hw7 b6 b7 q6 q7 b37 SZ
 go_upto_region 6 with fail
 rw [HW7.out]
 go_wp2_with fail
 refine CALL.out.mono ?_
 rintro e w9 ⟨A9,c9,K9,(⟨hn,rfl,S9⟩ | ⟨q,hq,rfl,S9⟩)⟩
 ·go_wp2_with fail
  refine bodyPost_ret (results_tmp2 rfl _ _ _) rfl ?_
  exact ⟨.inl ⟨hn,rfl⟩,S9.below⟩
 rw [List.nil_append] at S9
 have z9:=zC S9.b3 0
 simp at z9
 have HZ:Hid (PathAns w r (.returned (.tuple #[.slice A9 q.length c9,.bool true])) w9):=zH ⟨.inr ⟨q,A9,c9,hq,rfl,by
  rcases S9.own.2 with ⟨_,h2⟩ | ⟨g',cap',cur',hv',_,_,hnc,_⟩
  ·rw [h2];exact Nat.zero_le _
  injection hv' with _ _ e3;omega,own_base S9.own hs0⟩,S9.below⟩
 clear S9 hq K9
 go_wp2_with fail
 refine bodyPost_ret (results_tmp2 rfl _ _ _) rfl ?_
 exact HZ.out
end Go.Proofs.YtadjpadieljjlaaGreat
namespace Go.Proofs.YtadjpadieljjlaaGreat
open Go.RowKit
mutual
def TreeP (q:Nat→Prop) (w:World):Lfc.Raw→Value→Value→Value→Value→Prop
 | .node k n p ts,v0,v1,v2,v3=>v0=.int .i64 k∧v1=S n∧n.length≤1000000∧v2=.int .i64 p∧∃A c,v3=.slice A ts.length c∧ts.length≤c∧(ts≠[]→∃b o,A=some ⟨b,o,none⟩∧b<w.heap.size∧q b∧TreesP q w b ts o)
def TreesP (q:Nat→Prop) (w:World) (b:Nat):List Lfc.Raw→Nat→Prop
 | [],_=>True
 | t :: r,o=>(∃v0 v1 v2 v3,w.cell? ⟨b,o,none⟩=some v0∧w.cell? ⟨b,o+1,none⟩=some v1∧w.cell? ⟨b,o+2,none⟩=some v2∧w.cell? ⟨b,o+3,none⟩=some v3∧TreeP q w t v0 v1 v2 v3)∧TreesP q w b r (o+4)
end
mutual
theorem TreeP.keep {q q':Nat→Prop} {w w':World} (hk:∀b,q b→b<w.heap.size→w'.heap[b]?=w.heap[b]?) (hs:w.heap.size≤w'.heap.size) (hq:∀b,b<w.heap.size→q b→q' b):∀ (t:Lfc.Raw) (v0 v1 v2 v3:Value),TreeP q w t v0 v1 v2 v3→TreeP q' w' t v0 v1 v2 v3
 | .node k n p ts,v0,v1,v2,v3,h=>by
  rw [TreeP] at h ⊢
  obtain ⟨h0,h1,hn,h2,A,c,h3,h4,h5⟩:=h
  refine ⟨h0,h1,hn,h2,A,c,h3,h4,fun hne=>?_⟩
  obtain ⟨b,o,hA,hlt,hqb,hts⟩:=h5 hne
  exact ⟨b,o,hA,Nat.lt_of_lt_of_le hlt hs,hq b hlt hqb,TreesP.keep hk hs hq ts b o hlt hqb hts⟩
theorem TreesP.keep {q q':Nat→Prop} {w w':World} (hk:∀b,q b→b<w.heap.size→w'.heap[b]?=w.heap[b]?) (hs:w.heap.size≤w'.heap.size) (hq:∀b,b<w.heap.size→q b→q' b):∀ (ts:List Lfc.Raw) (b o:Nat),b<w.heap.size→q b→TreesP q w b ts o→TreesP q' w' b ts o
 | [],_,_,_,_,_=>by rw [TreesP];trivial
 | t :: r,b,o,hlt,hb,h=>by
  rw [TreesP] at h ⊢
  obtain ⟨⟨v0,v1,v2,v3,c0,c1,c2,c3,ht⟩,hr⟩:=h
  have hc:=fun j=>World.cell?_of_block (a:=⟨b,j,none⟩) (hk b hb hlt)
  exact ⟨⟨v0,v1,v2,v3,(hc _).trans c0,(hc _).trans c1,(hc _).trans c2,(hc _).trans c3,TreeP.keep hk hs hq t v0 v1 v2 v3 ht⟩,TreesP.keep hk hs hq r b (o+4) hlt hb hr⟩
end
mutual
theorem TreeP.toC {q:Nat→Prop} {w:World}:∀ (t:Lfc.Raw) (v0 v1 v2 v3:Value),TreeP q w t v0 v1 v2 v3→TreeC w t v0 v1 v2 v3
 | .node k n p ts,v0,v1,v2,v3,h=>by
  rw [TreeP] at h
  rw [TreeC]
  obtain ⟨h0,h1,hn,h2,A,c,h3,h4,h5⟩:=h
  refine ⟨h0,h1,hn,h2,A,c,h3,h4,fun hne=>?_⟩
  obtain ⟨b,o,hA,hlt,hqb,hts⟩:=h5 hne
  exact ⟨b,o,hA,hlt,TreesP.toC ts b o hts⟩
theorem TreesP.toC {q:Nat→Prop} {w:World}:∀ (ts:List Lfc.Raw) (b o:Nat),TreesP q w b ts o→TreesO w b ts o
 | [],_,_,_=>by rw [TreesO];trivial
 | t :: r,b,o,h=>by
  rw [TreesP] at h
  rw [TreesO]
  obtain ⟨⟨v0,v1,v2,v3,c0,c1,c2,c3,ht⟩,hr⟩:=h
  exact ⟨⟨v0,v1,v2,v3,c0,c1,c2,c3,TreeP.toC t v0 v1 v2 v3 ht⟩,TreesP.toC r b (o+4) hr⟩
end
mutual
theorem TreeC.toP {q:Nat→Prop} {w:World} (hq:∀b,b<w.heap.size→q b):∀ (t:Lfc.Raw) (v0 v1 v2 v3:Value),TreeC w t v0 v1 v2 v3→TreeP q w t v0 v1 v2 v3
 | .node k n p ts,v0,v1,v2,v3,h=>by
  rw [TreeC] at h
  rw [TreeP]
  obtain ⟨h0,h1,hn,h2,A,c,h3,h4,h5⟩:=h
  refine ⟨h0,h1,hn,h2,A,c,h3,h4,fun hne=>?_⟩
  obtain ⟨b,o,hA,hlt,hts⟩:=h5 hne
  exact ⟨b,o,hA,hlt,hq b hlt,TreesO.toP hq ts b o hts⟩
theorem TreesO.toP {q:Nat→Prop} {w:World} (hq:∀b,b<w.heap.size→q b):∀ (ts:List Lfc.Raw) (b o:Nat),TreesO w b ts o→TreesP q w b ts o
 | [],_,_,_=>by rw [TreesP];trivial
 | t :: r,b,o,h=>by
  rw [TreesO] at h
  rw [TreesP]
  obtain ⟨⟨v0,v1,v2,v3,c0,c1,c2,c3,ht⟩,hr⟩:=h
  exact ⟨⟨v0,v1,v2,v3,c0,c1,c2,c3,TreeC.toP hq t v0 v1 v2 v3 ht⟩,TreesO.toP hq r b (o+4) hr⟩
end
def RowP (q:Nat→Prop) (w:World):List Lfc.Raw→List Value→Prop
 | [],xs=>xs=[]
 | t :: r,xs=>∃v0 v1 v2 v3 ys,xs=v0 :: v1 :: v2 :: v3 :: ys∧TreeP q w t v0 v1 v2 v3∧RowP q w r ys
theorem RowP.len {q:Nat→Prop} {w:World}:∀ {ts:List Lfc.Raw} {xs:List Value},RowP q w ts xs→xs.length=4*ts.length
 | [],xs,h=>by rw [RowP] at h;subst h;rfl
 | t :: r,xs,h=>by
  rw [RowP] at h
  obtain ⟨v0,v1,v2,v3,ys,rfl,_,hr⟩:=h
  have:=hr.len
  simp;omega
theorem RowP.keep {q q':Nat→Prop} {w w':World} (hk:∀b,q b→b<w.heap.size→w'.heap[b]?=w.heap[b]?) (hs:w.heap.size≤w'.heap.size) (hq:∀b,b<w.heap.size→q b→q' b):∀ {ts:List Lfc.Raw} {xs:List Value},RowP q w ts xs→RowP q' w' ts xs
 | [],xs,h=>by rw [RowP] at h ⊢;exact h
 | t :: r,xs,h=>by
  rw [RowP] at h ⊢
  obtain ⟨v0,v1,v2,v3,ys,rfl,ht,hr⟩:=h
  exact ⟨v0,v1,v2,v3,ys,rfl,TreeP.keep hk hs hq t _ _ _ _ ht,hr.keep hk hs hq⟩
theorem RowP.append {q:Nat→Prop} {w:World} {us:List Lfc.Raw} {zs:List Value} (hz:RowP q w us zs):∀ {ts:List Lfc.Raw} {xs:List Value},RowP q w ts xs→RowP q w (ts++us) (xs++zs)
 | [],xs,h=>by rw [RowP] at h;subst h;exact hz
 | t :: r,xs,h=>by
  rw [RowP] at h
  obtain ⟨v0,v1,v2,v3,ys,rfl,ht,hr⟩:=h
  rw [List.cons_append,RowP]
  exact ⟨v0,v1,v2,v3,ys++zs,by simp,ht,RowP.append hz hr⟩
theorem RowP.one {q:Nat→Prop} {w:World} {t:Lfc.Raw} {v0 v1 v2 v3:Value} (h:TreeP q w t v0 v1 v2 v3):RowP q w [t] [v0,v1,v2,v3]:=⟨v0,v1,v2,v3,[],rfl,h,rfl⟩
def CellsAt (w:World) (b o:Nat) (xs:List Value):Prop:=∀j u,xs[j]?=some u→w.cell? ⟨b,o+j,none⟩=some u
theorem RowP.lie {q:Nat→Prop} {w:World} {b:Nat}:∀ {ts:List Lfc.Raw} {xs:List Value} {o:Nat},RowP q w ts xs→CellsAt w b o xs→TreesP q w b ts o
 | [],_,_,_,_=>by rw [TreesP];trivial
 | t :: r,xs,o,h,hc=>by
  rw [RowP] at h
  obtain ⟨v0,v1,v2,v3,ys,rfl,ht,hr⟩:=h
  rw [TreesP]
  refine ⟨⟨v0,v1,v2,v3,hc 0 _ rfl,hc 1 _ rfl,hc 2 _ rfl,hc 3 _ rfl,ht⟩,hr.lie fun j u hj=>?_⟩
  have:=hc (j+4) u (by simpa using hj)
  rw [show o+4+j=o+(j+4) by omega]
  exact this
theorem TreesP.row {q:Nat→Prop} {w:World} {b:Nat}:∀ {ts:List Lfc.Raw} {o:Nat},TreesP q w b ts o→∃xs,RowP q w ts xs∧CellsAt w b o xs
 | [],_,_=>⟨[],by rw [RowP],fun j u h=>by simp at h⟩
 | t :: r,o,h=>by
  rw [TreesP] at h
  obtain ⟨⟨v0,v1,v2,v3,c0,c1,c2,c3,ht⟩,hr⟩:=h
  obtain ⟨xs,hx,hc⟩:=hr.row
  refine ⟨v0 :: v1 :: v2 :: v3 :: xs,?_,fun j u hj=>?_⟩
  ·rw [RowP];exact ⟨v0,v1,v2,v3,xs,rfl,ht,hx⟩
  match j with
  | 0=>simp at hj;subst hj;exact c0
  | 1=>simp at hj;subst hj;exact c1
  | 2=>simp at hj;subst hj;exact c2
  | 3=>simp at hj;subst hj;exact c3
  | j+4 =>
   have:=hc j u (by simpa using hj)
   rw [show o+(j+4)=o+4+j by omega];exact this
theorem RowP.set {q:Nat→Prop} {w:World} {t:Lfc.Raw} {v0 v1 v2 v3:Value} (ht:TreeP q w t v0 v1 v2 v3):∀ {ts:List Lfc.Raw} {xs:List Value} (i:Nat),i<ts.length→RowP q w ts xs→RowP q w (ts.set i t) ((((xs.set (i*4) v0).set (i*4+1) v1).set (i*4+2) v2).set (i*4+3) v3)
 | [],_,_,hi,_=>by simp at hi
 | u :: r,xs,i,hi,h=>by
  rw [RowP] at h
  obtain ⟨u0,u1,u2,u3,ys,rfl,hu,hr⟩:=h
  match i with
  | 0=>simp only [List.set_cons_zero,Nat.zero_mul,Nat.zero_add,List.set_cons_succ];rw [RowP];exact ⟨v0,v1,v2,v3,ys,rfl,ht,hr⟩
  | i+1 =>
   have:=RowP.set ht i (by simpa using hi) hr
   rw [show (i+1)*4=i*4+1+1+1+1 by omega]
   simp only [List.set_cons_succ]
   rw [RowP]
   exact ⟨u0,u1,u2,u3,_,rfl,hu,this⟩
theorem CellsAt.set {w:World} {b o j0:Nat} {xs:List Value} (h:CellsAt w b o xs) (v:Value):CellsAt (w.setCell ⟨b,o+j0,none⟩ v) b o (xs.set j0 v):=by
 intro j u hj
 by_cases e:j=j0
 ·subst e
  have hl:j<xs.length:=by
   rcases Nat.lt_or_ge j xs.length with h1 | h1
   ·exact h1
   rw [List.set_eq_of_length_le h1,List.getElem?_eq_none h1] at hj;cases hj
  rw [List.getElem?_set_self hl] at hj
  cases hj
  refine World.cell?_setCell_same' _ _ _ ?_
  rw [h j xs[j] (List.getElem?_eq_getElem hl)];rfl
 rw [List.getElem?_set_ne (Ne.symm e)] at hj
 rw [World.cell?_setCell_other]
 ·exact h j u hj
 intro e';have:=congrArg Addr.off e';simp at this;omega
theorem taddr_add (b j:Nat):(⟨b,0,none⟩:Addr).add j=⟨b,j,none⟩:=by
 unfold Addr.add;split <;> simp_all
theorem own_cells {w:World} {base:Nat} {e:TypeId} {size n g cap:Nat} {xs:List Value} (h:w.ownsRow base e size (.slice (some ⟨g,0,none⟩) n cap) n xs):CellsAt w g 0 xs:=by
 intro j u hj
 have:=h.cells (g:=g) rfl j u hj
 rw [taddr_add] at this
 simpa using this
def TreesAtP (q:Nat→Prop) (w:World) (A:Option Addr) (ts:List Lfc.Raw):Prop:=ts≠[]→∃b o,A=some ⟨b,o,none⟩∧b<w.heap.size∧q b∧TreesP q w b ts o
theorem TreesAtP.keep {q q':Nat→Prop} {w w':World} {A:Option Addr} {ts:List Lfc.Raw} (hk:∀b,q b→b<w.heap.size→w'.heap[b]?=w.heap[b]?) (hs:w.heap.size≤w'.heap.size) (hq:∀b,b<w.heap.size→q b→q' b) (h:TreesAtP q w A ts):TreesAtP q' w' A ts:=fun hne=>by
 obtain ⟨b,o,hA,hlt,hb,h⟩:=h hne
 exact ⟨b,o,hA,Nat.lt_of_lt_of_le hlt hs,hq b hlt hb,TreesP.keep hk hs hq ts b o hlt hb h⟩
def TreeVP (q:Nat→Prop) (w:World) (t:Lfc.Raw) (v:Value):Prop:=∃v0 v1 v2 v3,v=.agg #[v0,v1,v2,v3]∧TreeP q w t v0 v1 v2 v3
theorem TreeVP.toV {q:Nat→Prop} {w:World} {t:Lfc.Raw} {v:Value} (h:TreeVP q w t v):TreeV w t v:=by
 obtain ⟨v0,v1,v2,v3,rfl,h⟩:=h
 exact ⟨v0,v1,v2,v3,rfl,TreeP.toC t _ _ _ _ h⟩
theorem TreeV.toP {q:Nat→Prop} {w:World} {t:Lfc.Raw} {v:Value} (hq:∀b,b<w.heap.size→q b) (h:TreeV w t v):TreeVP q w t v:=by
 obtain ⟨v0,v1,v2,v3,rfl,h⟩:=h
 exact ⟨v0,v1,v2,v3,rfl,TreeC.toP hq t _ _ _ _ h⟩
theorem TreeVP.mk {q:Nat→Prop} {w:World} {k p:Int} {n:List UInt8} {ts:List Lfc.Raw} {A:Option Addr} {c:Nat} (hn:n.length≤1000000) (hc:ts.length≤c) (h:TreesAtP q w A ts):TreeVP q w (.node k n p ts) (.agg #[.int .i64 k,S n,.int .i64 p,.slice A ts.length c]) :=
 ⟨_,_,_,_,rfl,by rw [TreeP];exact ⟨rfl,rfl,hn,rfl,A,c,rfl,hc,h⟩⟩
theorem put4 {W:World} {R:Nat} {a0 a1 a2 a3:Value} {t:TypeId} (h:W.heap[R]?=some (.cells #[a0,a1,a2,a3] t (0,0))) (v0 v1 v2 v3:Value):∃s1 s2 s3 s4,W.setCell ⟨R,0,none⟩ v0=s1∧s1.setCell ⟨R,1,none⟩ v1=s2∧s2.setCell ⟨R,2,none⟩ v2=s3∧s3.setCell ⟨R,3,none⟩ v3=s4 ∧
  (W.cell? ⟨R,0,none⟩=some a0∧s1.cell? ⟨R,1,none⟩=some a1∧s2.cell? ⟨R,2,none⟩=some a2∧s3.cell? ⟨R,3,none⟩=some a3) ∧
  (W.frozen? ⟨R,0,none⟩=false∧s1.frozen? ⟨R,1,none⟩=false∧s2.frozen? ⟨R,2,none⟩=false∧s3.frozen? ⟨R,3,none⟩=false) ∧
  s4.heap[R]?=some (.cells #[v0,v1,v2,v3] t (0,0))∧Oth R W s4:=by
 obtain ⟨s1,h1⟩:∃s1,W.setCell ⟨R,0,none⟩ v0=s1:=⟨_,rfl⟩
 obtain ⟨s2,h2⟩:∃s2,s1.setCell ⟨R,1,none⟩ v1=s2:=⟨_,rfl⟩
 obtain ⟨s3,h3⟩:∃s3,s2.setCell ⟨R,2,none⟩ v2=s3:=⟨_,rfl⟩
 obtain ⟨s4,h4⟩:∃s4,s3.setCell ⟨R,3,none⟩ v3=s4:=⟨_,rfl⟩
 have q1:s1.heap[R]?=some (.cells #[v0,a1,a2,a3] t (0,0)):=by rw [←h1];simp [World.setCell,Array.getElem?_modify,h]
 have q2:s2.heap[R]?=some (.cells #[v0,v1,a2,a3] t (0,0)):=by rw [←h2];simp [World.setCell,Array.getElem?_modify,q1]
 have q3:s3.heap[R]?=some (.cells #[v0,v1,v2,a3] t (0,0)):=by rw [←h3];simp [World.setCell,Array.getElem?_modify,q2]
 have q4:s4.heap[R]?=some (.cells #[v0,v1,v2,v3] t (0,0)):=by rw [←h4];simp [World.setCell,Array.getElem?_modify,q3]
 refine ⟨s1,s2,s3,s4,h1,h2,h3,h4,⟨zC h 0,zC q1 1,zC q2 2,zC q3 3⟩,⟨zF h 0,zF q1 1,zF q2 2,zF q3 3⟩,q4,?_⟩
 rw [←h4,←h3,←h2,←h1]
 exact (((Oth.set W v0).trans (Oth.set _ v1)).trans (Oth.set _ v2)).trans (Oth.set _ v3)
end Go.Proofs.YtadjpadieljjlaaGreat
