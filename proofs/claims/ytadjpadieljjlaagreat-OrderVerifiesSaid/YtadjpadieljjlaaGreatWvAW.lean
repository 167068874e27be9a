/- Parts of the proof that no input makes the law false: OvMt, OvHere, OvSo, OvOb. -/
import Derived.Test.YtadjpadieljjlaaGreatWvAV
set_option linter.unusedVariables false
set_option linter.unusedSimpArgs false
set_option maxRecDepth 100000
set_option maxHeartbeats 32000000
namespace Go.Proofs.YtadjpadieljjlaaGreat
open Go.RowKit Go.Maps _root_.Lfc
theorem rUnderO_any(kd ps i:Int)(nm:List UInt8)(A:Option Addr)(l c:Nat)(w:World)(hk:kd=3\/kd=4\/kd=5\/kd=6) :
  Calls Tryz.prog 76 #[.agg #[zI kd,S nm,zI ps,.slice A l c],zI i] w fun e w'=>e=.returned (zI (if kd=3 then 1 else 0))/\zb w w':=by
 obtain⟨w1,hw1⟩:∃w1,w.alloc (.cells #[zI kd,S nm,zI ps,.slice A l c] 51)=w1:=⟨_,rfl⟩;have b1:=zG hw1;have q1:=zQ hw1;obtain⟨y0,y1,y2,y3⟩:=cells4v q1;have B1:=zH b1;clear b1 q1;rcases hk with rfl | rfl | rfl | rfl;all_goals
  go_enter Tryz.func76,Tryz.ntmps76;go_wp2_with fail;go_ret;exact⟨rfl,B1.o⟩
structure MtS(w0:World)(cr G:Nat)(W:World)(tv:List Int):Prop where
 below:Below w0.heap.size w0 W
 g:W.heap[G]?=some (.cells (ints tv).toArray 3 (0,0))
 len:tv.length=cr
 n:w0.heap.size≤G
theorem MtS.wide{w0:World}{cr G:Nat}{W W':World}{tv:List Int}(h:MtS w0 cr G W tv)(hb:Below W.heap.size W W'):MtS w0 cr G W' tv :=
 ⟨h.below.trans (hb.mono h.below.size),(hb.block _ (zL h.g)).trans h.g,h.len,h.n⟩
theorem MtS.set{w0:World}{cr G:Nat}{W:World}{tv:List Int}(h:MtS w0 cr G W tv)(q:Nat)(z:Int):MtS w0 cr G (W.setCell ⟨G,q,none⟩ (.int .i64 z)) (tv.set q z):=by
 have ho:Oth G W (W.setCell ⟨G,q,none⟩ (.int .i64 z)):=Oth.set _ _;refine⟨Oth.below h.below ho h.n h.below.size,?_,by rw[List.length_set];exact h.len,h.n⟩;simp[World.setCell,zM,h.g,ints,List.map_set]
theorem MtS.cell{w0:World}{cr G:Nat}{W:World}{tv:List Int}(h:MtS w0 cr G W tv){q:Nat}(hq:q<cr):W.cell? ⟨G,q,none⟩=some (.int .i64 (tv.getD q 0))∧W.frozen? ⟨G,q,none⟩=false :=
 ⟨ints_cell h.g (by rw[h.len];exact hq),zF h.g q⟩
def MtAns(w0:World)(cr G:Nat)(W:World)(r:Option (List Int))(e:Ending)(w':World):Prop :=
 ((r=none∧e=.returned (.bool false))∨(∃tv',r=some tv'∧e=.returned (.bool true)∧MtS w0 cr G w' tv'))∧Oth G W w'
theorem MtAns.no{w0:World}{cr G:Nat}{W:World}{r:Option (List Int)}{w':World}(h:r=none)(ho:Oth G W w'):MtAns w0 cr G W r (.returned (.bool false)) w':=⟨.inl ⟨h,rfl⟩,ho⟩
theorem obj_parts{kd ps:Int}{nm:List UInt8}{xs:List Raw}(hso:(Raw.node kd nm ps xs).obj=true):(kd=3∨kd=4∨kd=5∨kd=6)∧(kd=5∨kd=6→0≤ps∧ps≤1048576)∧Raw.objs xs=true:=by
 rw[Raw.obj] at hso;split at hso
 ·simp at hso;exact⟨by omega,by omega,hso.2⟩
 split at hso
 ·simp at hso;exact⟨by omega,by omega,hso.2⟩
 split at hso
 ·simp at hso;exact⟨by omega,by omega,hso.2⟩
 split at hso
 ·simp at hso;exact⟨by omega,by omega,hso.2⟩
 cases hso
theorem rMeets_upto(w0:World)(ks:List Int)(A0:Option Addr)(c0 cr G:Nat)(hcr:cr≤1000000)(hks:ks.length≤1000000)(hA0:IntsO w0 A0 ks)(m:Nat)(hm:m≤1000000) :
  ∀(s t:Raw)(vs vt:Value)(d:Int)(tv:List Int)(W:World),s.size≤m→0≤d→d+s.size≤2000000→s.obj=true→t.obj=true→TreeV w0 s vs→TreeV w0 t vt→MtS w0 cr G W tv →
  Calls Tryz.prog 120 #[vt,vs,.slice A0 ks.length c0,.slice (some ⟨G,0,none⟩) cr cr,.int .i64 d] W (MtAns w0 cr G W (s.st ks cr t d tv)):=by
 induction m with
 |zero=>intro s t vs vt d tv W h;have:=s.size_pos;omega
 |succ m ih =>
  intro s t vs vt d tv W hsz hd0 hds hso hto hv hv' hS;obtain⟨kd,nm,ps,xs⟩:=s;obtain⟨kd',nm',ps',ys⟩:=t;obtain⟨A,c,rfl,hc,hA⟩:=hv.open_;obtain⟨A',c',rfl,hc',hA'⟩:=hv'.open_;simp only[Raw.size] at hsz hds;have hlen:=Raw.sizes_len xs;obtain⟨Wa,hWa⟩:∃Wa,W.alloc (.cells #[.int .i64 kd',S nm',.int .i64 ps',.slice A' ys.length c'] 51)=Wa:=⟨_,rfl⟩;obtain⟨Wb,hWb⟩:∃Wb,Wa.alloc (.cells #[.int .i64 kd,S nm,.int .i64 ps,.slice A xs.length c] 51)=Wb:=⟨_,rfl⟩;have ba:=zG hWa;have bb:=zG hWb;have qa:=zQ hWa;have qb:=zQ hWb;have la:=zL qa;have lb:=zL qb;have lg:=zL hS.g;have bW:Below W.heap.size W Wb:=ba.trans (bb.mono (by omega));have QA:=zH ((bb.block _ la).trans qa);have QB:=zH qb;have SB:=zH (hS.wide bW);have OW:Hid (Oth G W Wb):=zH (zE bW);have IH:=zH (ih (by omega));have HA:=zH hA;have HA':=zH hA';have HB0:=zH hA0;obtain⟨y0,y1,y2,y3⟩:=cells4v QA.out;obtain⟨z0,z1,z2,z3⟩:=cells4v QB.out;obtain⟨hk4,hps,hox⟩:=obj_parts hso;obtain⟨hk4',hps',hoy⟩:=obj_parts hto;have HOX:=zH ((objs_spec xs).1 hox);have HOY:=zH ((objs_spec ys).1 hoy);obtain⟨nx,hnx⟩:∃n,xs.length=n:=⟨_,rfl⟩;obtain⟨ny,hny⟩:∃n,ys.length=n:=⟨_,rfl⟩;rw[hnx] at z3 hlen QB hWb ⊢;rw[hny] at y3 QA hWa ⊢;have HNX:=zH hnx;have HNY:=zH hny;have HNE:Hid (W.heap.size≠G∧Wa.heap.size≠G):=zH ⟨by omega,by omega⟩;obtain⟨BAD,hBAD⟩:∃b:Bool,b=!(decide (kd'=kd∧(kd'=4→nm'=nm)∧(kd'=6→ps'=ps)∧ny=nx)):=⟨_,rfl⟩;have HB:=zH hBAD;clear ih hv hv' hA hA' ba bb qa qb bW hS hso hto hox hoy hA0 hnx hny hBAD;go_enter Tryz.func120,Tryz.ntmps120;go_upto_region 1 with fail;clear hWa hWb;go_cut [52] (fun s wx=>s=.bool BAD∧wx=Wb);case first =>
   by_cases hk:kd'=kd
   ·subst hk;rcases hk4 with rfl | rfl | rfl | rfl
    ·by_cases hl:ny=nx
     ·subst hl;have HZ:Hid (BAD=false):=zH (by rw[HB.out];simp);go_wp2_with fail;go_meet;exact⟨by rw[HZ.out],rfl⟩
     have n1:((ny:Int) == (nx:Int))=false:=(by simp;omega);have n2:((ny:Int) != (nx:Int))=true:=(by simp;omega);have HZ:Hid (BAD=true):=zH (by rw[HB.out];simp[hl]);clear hl;go_wp2_with fail;go_meet;exact⟨by rw[HZ.out],rfl⟩
    ·by_cases hn:nm'=nm
     ·subst hn;by_cases hl:ny=nx
      ·subst hl;have HZ:Hid (BAD=false):=zH (by rw[HB.out];simp);go_wp2_with fail;go_meet;exact⟨by rw[HZ.out],rfl⟩
      have n1:((ny:Int) == (nx:Int))=false:=(by simp;omega);have n2:((ny:Int) != (nx:Int))=true:=(by simp;omega);have HZ:Hid (BAD=true):=zH (by rw[HB.out];simp[hl]);clear hl;go_wp2_with fail;go_meet;exact⟨by rw[HZ.out],rfl⟩
     have n1:(nm' == nm)=false:=(by simpa using hn);have n2:(nm' != nm)=true:=(by simpa using hn);have HZ:Hid (BAD=true):=zH (by rw[HB.out];simp[hn]);clear hn;go_wp2_with fail;go_meet;exact⟨by rw[HZ.out],rfl⟩
    ·by_cases hl:ny=nx
     ·subst hl;have HZ:Hid (BAD=false):=zH (by rw[HB.out];simp);go_wp2_with fail;go_meet;exact⟨by rw[HZ.out],rfl⟩
     have n1:((ny:Int) == (nx:Int))=false:=(by simp;omega);have n2:((ny:Int) != (nx:Int))=true:=(by simp;omega);have HZ:Hid (BAD=true):=zH (by rw[HB.out];simp[hl]);clear hl;go_wp2_with fail;go_meet;exact⟨by rw[HZ.out],rfl⟩
    by_cases hn:ps'=ps
    ·subst hn;by_cases hl:ny=nx
     ·subst hl;have HZ:Hid (BAD=false):=zH (by rw[HB.out];simp);go_wp2_with fail;go_meet;exact⟨by rw[HZ.out],rfl⟩
     have n1:((ny:Int) == (nx:Int))=false:=(by simp;omega);have n2:((ny:Int) != (nx:Int))=true:=(by simp;omega);have HZ:Hid (BAD=true):=zH (by rw[HB.out];simp[hl]);clear hl;go_wp2_with fail;go_meet;exact⟨by rw[HZ.out],rfl⟩
    have n1:(ps' == ps)=false:=(by simpa using hn);have n2:(ps' != ps)=true:=(by simpa using hn);have HZ:Hid (BAD=true):=zH (by rw[HB.out];simp[hn]);clear hn;go_wp2_with fail;go_meet;exact⟨by rw[HZ.out],rfl⟩
   have n1:(kd' == kd)=false:=(by simpa using hk);have n2:(kd' != kd)=true:=(by simpa using hk);have HZ:Hid (BAD=true):=zH (by rw[HB.out];simp[hk]);clear hk;go_wp2_with fail;go_meet;exact⟨by rw[HZ.out],rfl⟩
  obtain⟨rfl,hwx⟩:=hcut;rw[hwx];clear hwx;cases BAD with
  |true =>
   have HN:Hid ((Raw.node kd nm ps xs).st ks cr (.node kd' nm' ps' ys) d tv=none):=zH (by
    have h:=HB.out;rw[st_node];by_cases hk:kd≠kd'∨xs.length≠ys.length
    ·rw[if_pos hk]
    rw[if_neg hk];have hk1:kd'=kd:=by
     by_cases e:kd=kd'
     ·exact e.symm
     exact absurd (.inl e) hk
    have hk2:ny=nx:=by
     rw[←HNX.out,←HNY.out];by_cases e:xs.length=ys.length
     ·exact e.symm
     exact absurd (.inr e) hk
    have h2:¬(kd'=kd∧(kd'=4→nm'=nm)∧(kd'=6→ps'=ps)∧ny=nx):=by
     intro hh;rw[Zt hh] at h;cases h
    rcases hk4 with e | e | e | e
    ·exact absurd ⟨hk1,fun e2=>by omega,fun e2=>by omega,hk2⟩ h2
    ·have:nm≠nm':=fun e3=>h2 ⟨hk1,fun _=>e3.symm,fun e2=>by omega,hk2⟩;simp[stStep,e,this]
    ·exact absurd ⟨hk1,fun e2=>by omega,fun e2=>by omega,hk2⟩ h2
    have:ps≠ps':=fun e3=>h2 ⟨hk1,fun e2=>by omega,fun _=>e3.symm,hk2⟩;simp[stStep,e,this])
   go_wp2_with fail;go_ret;exact MtAns.no HN.out OW.out
  |false =>
   have hg:kd'=kd∧(kd'=4→nm'=nm)∧(kd'=6→ps'=ps)∧ny=nx:=by
    have h:=HB.out;by_cases hh:kd'=kd∧(kd'=4→nm'=nm)∧(kd'=6→ps'=ps)∧ny=nx
    ·exact hh
    rw[Zu hh] at h;cases h
   obtain⟨rfl,hn4,hn6,rfl⟩:=hg;have HL:Hid (xs.length=ys.length):=zH (by rw[HNX.out,HNY.out]);have HNO:Hid (stStep ks cr kd' nm nm' ps ps' d tv=none→∀w',Oth G W w'→MtAns w0 cr G W ((Raw.node kd' nm ps xs).st ks cr (.node kd' nm' ps' ys) d tv) (.returned (.bool false)) w'):=zH (fun h w' ho=>MtAns.no (st_none HL.out h) ho);have HYES:Hid (∀d2 tv2,stStep ks cr kd' nm nm' ps ps' d tv=some tv2→d2=(if kd'=3 then d+1 else d)→(Raw.node kd' nm ps xs).st ks cr (.node kd' nm' ps' ys) d tv=Raw.sts ks cr xs ys d2 tv2):=zH (fun d2 tv2 h hd=>st_some HL.out h hd);have HN4:=zH hn4;have HN6:=zH hn6;clear hk4' HB hn4 hn6;go_upto_region 3 with fail;obtain⟨e5,g5,g5',_⟩:=intCaseV kd' 5;go_upto_if 55 with fail;go_cut [] (fun wx=>∃tv2,Hid (stStep ks cr kd' nm nm' ps ps' d tv=some tv2)∧Hid (MtS w0 cr G wx tv2)∧Hid (Oth G Wb wx));case first =>
    by_cases h5:kd'=5
    ·obtain rfl:e5=true:=(by rw[←g5'];simpa using h5);have H5:=zH h5;have hps1:=hps (.inl h5);have hps1':=hps' (.inl h5);clear g5 g5' hps hps' hk4 h5;by_cases hneg:ps-d<0
     ·have hd1:decide (ps<d)=true:=Zt (by omega);by_cases hp:ps'=ps
      ·have HST:Hid (stStep ks cr kd' nm nm' ps ps' d tv=some tv):=zH (by unfold stStep;rw[if_neg (by rw[H5.out];decide),if_pos H5.out,if_pos hneg,if_pos hp.symm]);have hp1:(ps' == ps)=true:=(by simp[hp]);have hp2:(ps' != ps)=false:=(by simp[hp]);clear HNO HYES hp;go_wp2_with fail;go_meet;exact⟨tv,HST,SB,zH (Oth.refl _ _)⟩
      have HN:=zH (HNO.out (by unfold stStep;rw[if_neg (by rw[H5.out];decide),if_pos H5.out,if_pos hneg,if_neg (fun h=>hp h.symm)]));have hp1:(ps' == ps)=false:=(by simp[hp]);have hp2:(ps' != ps)=true:=(by simp[hp]);clear HNO HYES hp;go_wp2_with fail;go_ret;exact HN.out _ OW.out
     obtain⟨q,hq⟩:∃q:Nat,ps-d=q:=⟨(ps-d).toNat,by omega⟩;have hd1:decide (ps<d)=false:=Zu (by omega);have hwq:IntKind.i64.wrap (ps-d)=(q:Int):=(by rw[Zi _ (by omega)];exact hq);have hws:IntKind.i64.wrap (d+(cr:Int))=d+(cr:Int):=Zi _ (by omega);by_cases hqc:q<cr
     ·have hd2:decide (ps<d+(cr:Int))=true:=Zt (by omega);have hq0:(0:Int)≤(q:Int):=(by omega);have hq1:(q:Int)<(cr:Int):=(by omega);obtain⟨cq,fq⟩:=SB.out.cell hqc;have E0:Hid (stStep ks cr kd' nm nm' ps ps' d tv=if ps'-d<0∨kindOf ks (ps'-d)≠2∨(0≤tv.getD q 0∧tv.getD q 0≠ps'-d) then none else some (tv.set q (ps'-d))):=zH (by
       unfold stStep;rw[if_neg (by rw[H5.out];decide),if_pos H5.out,if_neg hneg,if_pos (by omega),hq];rfl)
      go_upto_region 9 with fail;by_cases hjn:ps'<d
      ·have HN:=zH (HNO.out (by rw[E0.out,if_pos (.inl (by omega))]));have hwj:IntKind.i64.wrap (ps'-d)=ps'-d:=Zi _ (by omega);have hj1:decide (ps'<d)=true:=Zt hjn;clear HNO HYES E0 cq fq;go_quiet (fail);obtain⟨w8,hw8⟩:∃v,Wb.drewN nq=v:=⟨_,rfl⟩;rw[hw8];have B8:Hid (Below Wb.heap.size Wb w8):=zH (by rw[←hw8];exact below_drewN (zB _ _) nq);clear hw8 y0 y1 y2 y3 z0 z1 z2 z3;obtain⟨y0,y1,y2,y3⟩:=cells4v ((B8.out.block _ (by omega)).trans QA.out);obtain⟨z0,z1,z2,z3⟩:=cells4v ((B8.out.block _ (by omega)).trans QB.out);have S8:=zH (SB.out.wide B8.out);go_wp2_with fail;go_ret;exact HN.out _ (OW.out.trans (zE B8.out))
      obtain⟨j,hj⟩:∃j:Nat,ps'-d=j:=⟨(ps'-d).toNat,by omega⟩;rw[hj] at E0;have hwj:IntKind.i64.wrap (ps'-d)=(j:Int):=(by rw[Zi _ (by omega)];exact hj);have hj1:decide (ps'<d)=false:=Zu (by omega);clear cq fq;go_quiet (fail);obtain⟨w8,hw8⟩:∃v,Wb.drewN nq=v:=⟨_,rfl⟩;rw[hw8];have B8:Hid (Below Wb.heap.size Wb w8):=zH (by rw[←hw8];exact below_drewN (zB _ _) nq);clear hw8 y0 y1 y2 y3 z0 z1 z2 z3;obtain⟨y0,y1,y2,y3⟩:=cells4v ((B8.out.block _ (by omega)).trans QA.out);obtain⟨z0,z1,z2,z3⟩:=cells4v ((B8.out.block _ (by omega)).trans QB.out);have S8:=zH (SB.out.wide B8.out);obtain⟨cq,fq⟩:=S8.out.cell hqc;have CK:=zH (rLocal_any ks A0 c0 (j:Int) w8 (by omega) hks (HB0.out.below S8.out.below));obtain⟨kj,hkj⟩:∃kj,kindOf ks (j:Int)=kj:=⟨_,rfl⟩;obtain⟨z,hz⟩:∃z,tv.getD q 0=z:=⟨_,rfl⟩;rw[hkj] at CK E0;rw[hz] at cq E0;clear hkj hz;by_cases hk5:kj=2
      ·subst hk5;have CK2:Hid (Calls Tryz.prog 129 #[.slice A0 ks.length c0,.int .i64 (j:Int)] w8 fun e w'=>e=.returned (.bool true)∧w'=w8):=zH CK.out;clear CK;by_cases hz0:0≤z
       ·have hz1:decide (0≤z)=true:=Zt hz0;have hz2:decide (z≥0)=true:=Zt hz0;by_cases hzj:z=(j:Int)
        ·have HST:Hid (stStep ks cr kd' nm nm' ps ps' d tv=some (tv.set q (j:Int))):=zH (by rw[E0.out,if_neg (by rintro (h | h | h);omega;exact h rfl;exact h.2 hzj)]);have hzj1:(z == (j:Int))=true:=(by simp[hzj]);have hzj2:(z != (j:Int))=false:=(by simp[hzj]);clear HNO HYES E0 hzj;go_wp2_with fail;refine CK2.out.mono ?_;rintro e w2⟨rfl,rfl⟩;go_wp2_with fail;go_meet;exact⟨_,HST,zH (S8.out.set q _),zH ((zE B8.out).trans (Oth.set _ _))⟩
        have HN:=zH (HNO.out (by rw[E0.out,if_pos (.inr (.inr ⟨hz0,hzj⟩))]));have hzj1:(z == (j:Int))=false:=(by simp[hzj]);have hzj2:(z != (j:Int))=true:=(by simp[hzj]);clear HNO HYES E0 hzj;go_wp2_with fail;refine CK2.out.mono ?_;rintro e w2⟨rfl,rfl⟩;go_wp2_with fail;go_ret;exact HN.out _ (OW.out.trans (zE B8.out))
       have HST:Hid (stStep ks cr kd' nm nm' ps ps' d tv=some (tv.set q (j:Int))):=zH (by rw[E0.out,if_neg (by rintro (h | h | h);omega;exact h rfl;exact hz0 h.1)]);have hz1:decide (0≤z)=false:=Zu hz0;have hz2:decide (z≥0)=false:=Zu hz0;clear HNO HYES E0 hz0;go_wp2_with fail;refine CK2.out.mono ?_;rintro e w2⟨rfl,rfl⟩;go_wp2_with fail;go_meet;exact⟨_,HST,zH (S8.out.set q _),zH ((zE B8.out).trans (Oth.set _ _))⟩
      have HN:=zH (HNO.out (by rw[E0.out,if_pos (.inr (.inl hk5))]));have CK2:Hid (Calls Tryz.prog 129 #[.slice A0 ks.length c0,.int .i64 (j:Int)] w8 fun e w'=>e=.returned (.bool false)∧w'=w8):=zH (by have h:=CK.out;rwa[Zu hk5] at h);clear HNO HYES E0 hk5 CK;go_wp2_with fail;refine CK2.out.mono ?_;rintro e w2⟨rfl,rfl⟩;go_wp2_with fail;go_ret;exact HN.out _ (OW.out.trans (zE B8.out))
     have hd2:decide (ps<d+(cr:Int))=false:=Zu (by omega);have hwc:IntKind.i64.wrap (ps-(cr:Int))=ps-(cr:Int):=Zi _ (by omega);have E0:Hid (stStep ks cr kd' nm nm' ps ps' d tv=if ps'=ps-(cr:Int) then some tv else none):=zH (by
      unfold stStep;rw[if_neg (by rw[H5.out];decide),if_pos H5.out,if_neg hneg,if_neg (by omega)])
     by_cases hp:ps'=ps-(cr:Int)
     ·have HST:Hid (stStep ks cr kd' nm nm' ps ps' d tv=some tv):=zH (by rw[E0.out,if_pos hp]);have hp1:(ps' == ps-(cr:Int))=true:=(by simp[hp]);have hp2:(ps' != ps-(cr:Int))=false:=(by simp[hp]);clear HNO HYES E0 hp;go_wp2_with fail;go_meet;exact⟨tv,HST,SB,zH (Oth.refl _ _)⟩
     have HN:=zH (HNO.out (by rw[E0.out,if_neg hp]));have hp1:(ps' == ps-(cr:Int))=false:=(by simp[hp]);have hp2:(ps' != ps-(cr:Int))=true:=(by simp[hp]);clear HNO HYES E0 hp;go_wp2_with fail;go_ret;exact HN.out _ OW.out
    obtain rfl:e5=false:=(by rw[←g5'];simpa using h5);have HST:Hid (stStep ks cr kd' nm nm' ps ps' d tv=some tv):=zH (by
     unfold stStep;by_cases h4:kd'=4
     ·rw[if_pos h4,if_pos (HN4.out h4).symm]
     rw[if_neg h4,if_neg h5];by_cases h6:kd'=6
     ·rw[if_pos h6,if_pos (HN6.out h6).symm]
     rw[if_neg h6])
    clear HNO HYES h5 g5 g5' hps hps' hk4;go_wp2_with fail;go_meet;exact⟨tv,HST,SB,zH (Oth.refl _ _)⟩
   obtain⟨tv2,HST,HS2,HO2⟩:=hcut;obtain⟨d2,hd2⟩:∃d2,d2=(if kd'=3 then d+1 else d):=⟨_,rfl⟩;have HEQ:=zH (HYES.out d2 tv2 HST.out hd2);have hd2a:d≤d2∧d2≤d+1:=(by rw[hd2];split <;> omega);have HD2:=zH hd2;obtain⟨uu,huu⟩:∃u:Int,(if kd'=3 then(1:Int) else 0)=u:=⟨_,rfl⟩;have HUU:=zH huu;have HSUM:Hid (IntKind.i64.wrap (d+uu)=d2):=zH (by rw[←huu,hd2];split <;> rw[Zi _ (by omega)];omega);clear huu;clear y0 y1 y2 y3 z0 z1 z2 z3 HNO HYES HST hps hps' g5 g5' hd2;obtain⟨y0,y1,y2,y3⟩:=cells4v (HO2.out.heap QA.out HNE.out.1);go_wp2_with fail;go_loopw [14] (fun i wr=>∃(j:Nat)(tv3:List Int),j≤ny∧i=.int .i64 j∧Hid (Raw.sts ks cr xs ys d2 tv2=Raw.sts ks cr (xs.drop j) (ys.drop j) d2 tv3)∧Hid (MtS w0 cr G wr tv3)∧Hid (Oth G Wb wr)) (fun i _=>ny-(intOf i).toNat);case atStart=>exact⟨0,tv2,by omega,rfl,zH (by rw[List.drop_zero,List.drop_zero]),HS2,HO2⟩
   clear y0 y1 y2 y3 HS2 HO2;obtain⟨j,tv3,hj,rfl,HQ,HS,HO⟩:=hrel;obtain⟨y0,y1,y2,y3⟩:=cells4v (HO.out.heap QA.out HNE.out.1);obtain⟨z0,z1,z2,z3⟩:=cells4v (HO.out.heap QB.out HNE.out.2);by_cases hlt:j<ny
   ·have hlx:j<xs.length:=(by rw[HNX.out];exact hlt);have hly:j<ys.length:=(by rw[HNY.out];exact hlt);obtain⟨b,o,k1,n1,p1,us,B,cc1,rfl,hb,ht,d0,dd1,dd2,dd3,hcu,hB,hT⟩:=HA.out.at_ hlx;obtain⟨b',o',k2,n2,p2,us',B',cc2,rfl,hb',ht',e0,e1,e2,e3,hcu',hB',hT'⟩:=HA'.out.at_ hly;have hmem:=Raw.sizes_mem xs xs[j] (Ze _);have hi0:=zP j;have hi1:(j:Int)<(ny:Int):=(by omega);have HBL:=zH HS.out.below;have f0:=(HBL.out.cell (p:=⟨b,o+j*4,none⟩) hb).trans d0;have f1:=(HBL.out.cell (p:=⟨b,o+j*4+1,none⟩) hb).trans dd1;have f2:=(HBL.out.cell (p:=⟨b,o+j*4+2,none⟩) hb).trans dd2;have f3:=(HBL.out.cell (p:=⟨b,o+j*4+3,none⟩) hb).trans dd3;have g0:=(HBL.out.cell (p:=⟨b',o'+j*4,none⟩) hb').trans e0;have g1:=(HBL.out.cell (p:=⟨b',o'+j*4+1,none⟩) hb').trans e1;have g2:=(HBL.out.cell (p:=⟨b',o'+j*4+2,none⟩) hb').trans e2;have g3:=(HBL.out.cell (p:=⟨b',o'+j*4+3,none⟩) hb').trans e3;have CU:Hid (Calls Tryz.prog 76 #[.agg #[.int .i64 kd',S nm',.int .i64 ps',.slice (some ⟨b',o',none⟩) ny c'],.int .i64 (j:Int)] wr.drew fun e w'=>e=.returned (.int .i64 uu)∧Below wr.drew.heap.size wr.drew w'):=zH (by have h:=rUnderO_any kd' ps' (j:Int) nm' (some ⟨b',o',none⟩) ny c' wr.drew hk4;rwa[HUU.out] at h);have CALL:=zH (fun W1 (hW1:Below wr.heap.size wr W1)=>IH.out xs[j] ys[j] _ _ d2 tv3 W1 (by omega) (by omega) (by omega) (HOX.out j hlx) (HOY.out j hly) hT hT' (HS.out.wide hW1));have HQ2:=zH (HQ.out.trans (sts_drop hlx hly));obtain⟨r,hr⟩:∃r,Raw.st ks cr xs[j] ys[j] d2 tv3=r:=⟨_,rfl⟩;rw[hr] at CALL HQ2;have lb1:b<wr.heap.size:=Zl hb HBL.out.size;have lb2:b'<wr.heap.size:=Zl hb' HBL.out.size;have hnG:=HS.out.n;have nb1:b≠G:=(by omega);have nb2:b'≠G:=(by omega);clear hr hB hB' ht ht' hT hT' d0 dd1 dd2 dd3 e0 e1 e2 e3 HS HQ hnG;have SC:Hid (∀V,Oth G wr V→(V.cell? ⟨W.heap.size,0,none⟩=some (.int .i64 kd')∧V.cell? ⟨W.heap.size,1,none⟩=some (S nm')∧V.cell? ⟨W.heap.size,2,none⟩=some (.int .i64 ps')∧V.cell? ⟨W.heap.size,3,none⟩=some (.slice (some ⟨b',o',none⟩) ny c'))∧(V.cell? ⟨Wa.heap.size,0,none⟩=some (.int .i64 kd')∧V.cell? ⟨Wa.heap.size,1,none⟩=some (S nm)∧V.cell? ⟨Wa.heap.size,2,none⟩=some (.int .i64 ps)∧V.cell? ⟨Wa.heap.size,3,none⟩=some (.slice (some ⟨b,o,none⟩) ny c))∧(V.cell? ⟨b,o+j*4,none⟩=some (.int .i64 k1)∧V.cell? ⟨b,o+j*4+1,none⟩=some (S n1)∧V.cell? ⟨b,o+j*4+2,none⟩=some (.int .i64 p1)∧V.cell? ⟨b,o+j*4+3,none⟩=some (.slice B us.length cc1))∧(V.cell? ⟨b',o'+j*4,none⟩=some (.int .i64 k2)∧V.cell? ⟨b',o'+j*4+1,none⟩=some (S n2)∧V.cell? ⟨b',o'+j*4+2,none⟩=some (.int .i64 p2)∧V.cell? ⟨b',o'+j*4+3,none⟩=some (.slice B' us'.length cc2))):=zH (fun V hV=>⟨cells4v (hV.heap (HO.out.heap QA.out HNE.out.1) HNE.out.1),cells4v (hV.heap (HO.out.heap QB.out HNE.out.2) HNE.out.2),⟨(hV.cell (p:=⟨b,o+j*4,none⟩) lb1 nb1).trans f0,(hV.cell (p:=⟨b,o+j*4+1,none⟩) lb1 nb1).trans f1,(hV.cell (p:=⟨b,o+j*4+2,none⟩) lb1 nb1).trans f2,(hV.cell (p:=⟨b,o+j*4+3,none⟩) lb1 nb1).trans f3⟩,⟨(hV.cell (p:=⟨b',o'+j*4,none⟩) lb2 nb2).trans g0,(hV.cell (p:=⟨b',o'+j*4+1,none⟩) lb2 nb2).trans g1,(hV.cell (p:=⟨b',o'+j*4+2,none⟩) lb2 nb2).trans g2,(hV.cell (p:=⟨b',o'+j*4+3,none⟩) lb2 nb2).trans g3⟩⟩);have G0:Oth G wr wr.drew:=(Oth.refl _ _).drew;have hsum:=HSUM.out;clear hb hb' lb1 lb2 nb1 nb2 f0 f1 f2 f3 g0 g1 g2 g3;go_upto_region 18 with fail;clear y0 y1 y2 y3 z0 z1 z2 z3;refine wp_region_held_drew (S:=fun V=>(V.cell? ⟨W.heap.size,0,none⟩=some (.int .i64 kd')∧V.cell? ⟨W.heap.size,1,none⟩=some (S nm')∧V.cell? ⟨W.heap.size,2,none⟩=some (.int .i64 ps')∧V.cell? ⟨W.heap.size,3,none⟩=some (.slice (some ⟨b',o',none⟩) ny c'))∧(V.cell? ⟨Wa.heap.size,0,none⟩=some (.int .i64 kd')∧V.cell? ⟨Wa.heap.size,1,none⟩=some (S nm)∧V.cell? ⟨Wa.heap.size,2,none⟩=some (.int .i64 ps)∧V.cell? ⟨Wa.heap.size,3,none⟩=some (.slice (some ⟨b,o,none⟩) ny c))∧(V.cell? ⟨b,o+j*4,none⟩=some (.int .i64 k1)∧V.cell? ⟨b,o+j*4+1,none⟩=some (S n1)∧V.cell? ⟨b,o+j*4+2,none⟩=some (.int .i64 p1)∧V.cell? ⟨b,o+j*4+3,none⟩=some (.slice B us.length cc1))∧(V.cell? ⟨b',o'+j*4,none⟩=some (.int .i64 k2)∧V.cell? ⟨b',o'+j*4+1,none⟩=some (S n2)∧V.cell? ⟨b',o'+j*4+2,none⟩=some (.int .i64 p2)∧V.cell? ⟨b',o'+j*4+3,none⟩=some (.slice B' us'.length cc2))) (by kernel_rfl) ?_ (fun hH=>?_)
    ·exact SC.out _ G0
    refine tk 0 ?_;refine tk 1 ?_;refine tk 2 ?_;refine tk 3 ?_;refine tk 4 ?_;refine tk 5 ?_;refine tk 6 ?_;refine tk 7 ?_;refine tk 8 ?_;refine tk 9 ?_;refine tk 10 ?_;refine tk 11 ?_;refine tk 12 ?_;refine tk 13 ?_;refine tk 14 ?_;refine rd1 15 (fun K hK=>?_);go_simp;go_at_call 76;refine CU.out.mono ?_;rintro e wu⟨rfl,bu⟩;have BU:Hid (Below wr.heap.size wr wu):=zH ((zB _ _).drew.trans bu);have CC:=zH (CALL.out wu BU.out);refine hK.out _ _ ?_ (fun hH=>?_)
    ·(try dsimp only)
     exact SC.out _ (zE BU.out)
    clear hK K;refine nrm ?_;refine tk 16 ?_;clear bu CU CALL;refine rd1 17 (fun K hK=>?_);go_simp;go_at_call 120;refine CC.out.mono ?_;rintro e w1⟨(⟨hn,rfl⟩ | ⟨tv4,hs4,rfl,S4⟩),o4⟩
    ·have HN:Hid (MtAns w0 cr G W ((Raw.node kd' nm ps xs).st ks cr (.node kd' nm' ps' ys) d tv) (.returned (.bool false)) w1):=zH (MtAns.no (by rw[HEQ.out,HQ2.out,hn]) ((OW.out.trans HO.out).trans ((zE BU.out).trans o4)));have o5:=(zE BU.out).trans o4;clear hn hsum;refine hK.out _ _ ?_ (fun hH=>?_)
     ·(try dsimp only)
      exact SC.out _ o5
     clear hK K o4 o5;refine nrm ?_;refine tk 18 ?_;refine Zw ?_ _;go_wp2_with fail;go_ret;exact HN.out
    have HQ3:=zH (show Raw.sts ks cr xs ys d2 tv2=Raw.sts ks cr (xs.drop (j+1)) (ys.drop (j+1)) d2 tv4 by rw[HQ2.out,hs4]);have HS4:=zH S4;have HO4:=zH (HO.out.trans ((zE BU.out).trans o4));have o5:=(zE BU.out).trans o4;clear hs4 S4 hsum;refine hK.out _ _ ?_ (fun hH=>?_)
    ·(try dsimp only)
     exact SC.out _ o5
    clear hK K o4 o5;refine nrm ?_;refine tk 18 ?_;refine Zw ?_ _;go_wp2_with fail;go_roundw;case rel=>exact⟨j+1,tv4,by omega,by go_num,HQ3,HS4,HO4⟩
    case measure=>simp[intOf];omega
   have hjn:j=ny:=(by omega);have HZ:Hid (MtAns w0 cr G W ((Raw.node kd' nm ps xs).st ks cr (.node kd' nm' ps' ys) d tv) (.returned (.bool true)) wr):=zH ⟨.inr ⟨tv3,by rw[HEQ.out,HQ.out,List.drop_of_length_le (by rw[HNX.out];omega),Raw.sts];intros;simp at *,rfl,HS.out⟩,OW.out.trans HO.out⟩;have hi0:¬((j:Int)<(ny:Int)):=(by omega);clear HS HQ HO hjn;go_wp2_with fail;go_ret;exact HZ.out
theorem rHere_any(s t:Raw)(vs vt:Value)(cr:Nat)(ks:List Int)(A0:Option Addr)(c0:Nat)(w:World)(hcr:cr<=1000000)(hks:ks.length<=1000000)(hs:s.size<=1000000)(hso:s.obj=true)(hto:t.obj=true)(hA0:IntsO w A0 ks)(hv:TreeV w s vs)(hv':TreeV w t vt) :
  Calls Tryz.prog 112 #[vt,vs,.slice A0 ks.length c0,zI (cr:Int)] w fun e w'=>e=.returned (.bool (Raw.stands ks cr s t))/\zb w w':=by
 have HV:=zH hv;have HV':=zH hv';obtain⟨kd,nm,ps,xs,rfl⟩:∃kd nm ps xs,s=.node kd nm ps xs:=by
  cases s with
  |node kd nm ps xs=>exact⟨kd,nm,ps,xs,rfl⟩
 obtain⟨kd',nm',ps',ys,rfl⟩:∃kd nm ps xs,t=.node kd nm ps xs:=by
  cases t with
  |node kd nm ps xs=>exact⟨kd,nm,ps,xs,rfl⟩
 obtain⟨A,c,rfl,hc,hA⟩:=hv.open_;obtain⟨A',c',rfl,hc',hA'⟩:=hv'.open_;have hmk:=fun W=>makeInts cr hcr W;obtain⟨w1,hw1⟩:∃w1,w.alloc (.cells (zT kd' nm' ps' A' ys c') 51)=w1:=⟨_,rfl⟩;obtain⟨w2,hw2⟩:∃w2,w1.alloc (.cells (zT kd nm ps A xs c) 51)=w2:=⟨_,rfl⟩;obtain⟨w3,hw3⟩:∃w3,w2.alloc (.cells (ints (List.replicate cr 0)).toArray 3)=w3:=⟨_,rfl⟩;have b1:=zG hw1;have b2:=zG hw2;have b3:=zG hw3;have q1:=zQ hw1;have q2:=zQ hw2;have q3:=zQ hw3;have l1:=zL q1;have l2:=zL q2;have l3:=zL q3;have b13:zb w1 w3:=b2.trans (b3.mono (by omega));have B03:=zH (b1.trans (b13.mono (by omega)));have Q1:=zH ((b13.block _ (by omega)).trans q1);have Q2:=zH ((b3.block _ (by omega)).trans q2);have Q3:=zH q3;have HOB:=zJ hso hto;have HA0:=zH hA0;have HSZ:=zH hs;clear hv hv' hA hA' hA0 hso hto b1 b2 b3 q1 q2 q3 b13 hs;go_enter Tryz.func112,Tryz.ntmps112;go_upto_region 2 with fail;clear hmk hw1 hw2 hw3;go_wp2_with fail;go_loopw [10] (fun i wr=>∃k:Nat,k<=cr/\i=zI (k:Int)/\Hid (wr.heap[w2.heap.size]?=some (.cells (ints (List.replicate k (-1)++List.replicate (cr-k) 0)).toArray 3 (0,0))/\Oth w2.heap.size w3 wr)) (fun i _=>cr-(intOf i).toNat);case atStart=>exact⟨0,by omega,rfl,zH ⟨by simpa using Q3.o,Oth.refl _ _⟩⟩
 obtain⟨k,hk,rfl,HR⟩:=hrel;by_cases hlt:k<cr
 ·have hi0:=zP k;have hi1:(k:Int)<(cr:Int):=by omega
  have yk:zc wr w2.heap.size k (zI ((List.replicate k (-1:Int)++List.replicate (cr-k) 0).getD k 0)):=ints_cell HR.o.1 (by simp;omega);have fk:=zF HR.o.1 k;generalize (List.replicate k (-1:Int)++List.replicate (cr-k) 0).getD k 0=zkq at yk;have HN:Hid ((wr.setCell ⟨w2.heap.size,k,none⟩ (zI (-1))).heap[w2.heap.size]?=some (.cells (ints (List.replicate (k+1) (-1)++List.replicate (cr-(k+1)) 0)).toArray 3 (0,0))/\Oth w2.heap.size w3 (wr.setCell ⟨w2.heap.size,k,none⟩ (zI (-1)))):=zH ⟨by
   rw[<-rep_set _ _ _ _ hlt];simp[World.setCell,zM,HR.o.1,ints,List.map_set],HR.o.2.trans (Oth.set _ _)⟩
  clear HR;go_wp2_with fail;go_roundw;case rel=>exact⟨k+1,by omega,by go_num,HN⟩
  case measure=>simp[intOf];omega
 obtain rfl:k=cr:=by omega
 have ho:=HR.o.2;have hsr:=ho.size;have k1:=ho.heap Q1.o (show w.heap.size≠w2.heap.size by omega);have k2:=ho.heap Q2.o (show w1.heap.size≠w2.heap.size by omega);have bwz:zb w wr:=Oth.below B03.o ho (by omega) (by omega);have SZ:MtS w k w2.heap.size wr (List.replicate k (-1)):=by
  refine⟨bwz,?_,by simp,by omega⟩;have:=HR.o.1;rw[Nat.sub_self,List.replicate_zero,List.append_nil] at this;exact this
 obtain⟨y0,y1,y2,y3⟩:=cells4v k1;obtain⟨z0,z1,z2,z3⟩:=cells4v k2;have CALL:=zH (rMeets_upto w ks A0 c0 k w2.heap.size hcr hks HA0.o _ HSZ.o _ _ _ _ 0 _ wr (zN _) (by omega) (by have:=HSZ.o;omega) HOB.o.1 HOB.o.2 HV.o HV'.o SZ);have HBW:=zH bwz;have hs04:w.heap.size<=w2.heap.size:=by omega
 have hsz:=bwz.size;obtain⟨r,hr⟩:∃r,(Raw.node kd nm ps xs).st ks k (.node kd' nm' ps' ys) 0 (List.replicate k (-1))=r:=⟨_,rfl⟩;have HST:=zH (show Raw.stands ks k (.node kd nm ps xs) (.node kd' nm' ps' ys)=r.isSome by rw[Raw.stands,hr]);rw[hr] at CALL;have hi0:¬((k:Int)<(k:Int)):=by omega
 clear ho k1 k2 bwz SZ hr HR;go_wp2_with fail;refine CALL.o.mono ?_;rintro e w9⟨(⟨hn,rfl⟩ | ⟨tv4,hs4,rfl,S4⟩),o4⟩
 ·have HZ:=zH (Oth.below HBW.o o4 hs04 hsz);have HN:=zH hn;clear hn o4;go_wp2_with fail;go_ret;exact⟨by rw[HST.o,HN.o];rfl,HZ.o⟩
 have HZ:=zH (Oth.below HBW.o o4 hs04 hsz);have HN:=zH hs4;clear hs4 S4 o4;go_wp2_with fail;go_ret;exact⟨by rw[HST.o,HN.o];rfl,HZ.o⟩
end Go.Proofs.YtadjpadieljjlaaGreat
namespace Lfc
def nodeB(kd ps:Int)(nm:List UInt8)(n:Nat)(q b3 b4 b5:Bool):Prop :=
 (kd=3→(b3 && b4 && b5)=(decide (ps=0) && decide (n=1) && (decide (nm=[]) || decide (nm=[95]) || q)))∧(kd=4→(b3 && b4 && b5)=(q && decide (ps=0))) ∧
 (kd=5→(b3 && b4 && b5)=(decide (nm=[]) && decide (0≤ps) && decide (ps≤1048576)))∧(kd=6→(b3 && b4 && b5)=(decide (nm=[]) && decide (0≤ps) && decide (ps<2048)))
theorem obj_of{kd ps:Int}{nm:List UInt8}{ts:List Raw}{b3 b4 b5:Bool}(h:nodeB kd ps nm ts.length (isName nm) b3 b4 b5):(Raw.node kd nm ps ts).obj=(decide (kd=3∨kd=4∨kd=5∨kd=6) && (b3 && b4 && b5) && Raw.objs ts):=by
 obtain⟨h3,h4,h5,h6⟩:=h;rw[Raw.obj];split
 ·rename_i k;rw[h3 k,tbound,decide_eq_true (show kd=3∨kd=4∨kd=5∨kd=6 by omega),Bool.true_and]
 split
 ·rename_i k;rw[h4 k,decide_eq_true (show kd=3∨kd=4∨kd=5∨kd=6 by omega),Bool.true_and]
 split
 ·rename_i k;rw[h5 k,decide_eq_true (show kd=3∨kd=4∨kd=5∨kd=6 by omega),Bool.true_and]
 split
 ·rename_i k;rw[h6 k,decide_eq_true (show kd=3∨kd=4∨kd=5∨kd=6 by omega),Bool.true_and]
 rw[decide_eq_false (show ¬(kd=3∨kd=4∨kd=5∨kd=6) by omega),Bool.false_and,Bool.false_and]
end Lfc
namespace Go.Proofs.YtadjpadieljjlaaGreat
open Go.RowKit Go.Maps _root_.Lfc
def SortsO(t:Raw)(w:World)(e:Ending)(w':World):Prop:=(∃r:Nat,r<8∧e=.returned (.int .i64 (r:Int))∧(r % 2=1↔t.obj=true))∧Below w.heap.size w w'
theorem sortsO_ret{t:Raw}{w w':World}{r:Nat}(h:r<8)(ho:r % 2=1↔t.obj=true)(hb:Below w.heap.size w w'):SortsO t w (.returned (.int .i64 (r:Int))) w':=⟨⟨r,h,rfl,ho⟩,hb⟩
theorem sortsO_no{t:Raw}{w w':World}{r:Nat}(h:r<8)(hr:r % 2=0)(ho:t.obj=false)(hb:Below w.heap.size w w'):SortsO t w (.returned (.int .i64 (r:Int))) w':=⟨⟨r,h,rfl,fun h=>by omega,fun h=>by rw[ho] at h;cases h⟩,hb⟩
theorem and_even{r:Nat}(h:r<8)(m:Int)(hm:m=2∨m=6):∃s:Nat,s<8∧s % 2=0∧bits BinOp.and IntKind.i64 (r:Int) m=(s:Int):=by
 rcases(show r=0∨r=1∨r=2∨r=3∨r=4∨r=5∨r=6∨r=7 by omega) with rfl | rfl | rfl | rfl | rfl | rfl | rfl | rfl <;> rcases hm with rfl | rfl;all_goals first | exact⟨0,by omega,by omega,by decide⟩ | exact⟨2,by omega,by omega,by decide⟩ | exact⟨4,by omega,by omega,by decide⟩ | exact⟨6,by omega,by omega,by decide⟩
theorem and_one{r:Nat}(h:r<8):∃s:Nat,s<8∧s=r % 2∧bits BinOp.and IntKind.i64 (r:Int) 1=(s:Int):=by
 rcases(show r=0∨r=1∨r=2∨r=3∨r=4∨r=5∨r=6∨r=7 by omega) with rfl | rfl | rfl | rfl | rfl | rfl | rfl | rfl;all_goals first | exact⟨0,by omega,by omega,by decide⟩ | exact⟨1,by omega,by omega,by decide⟩
theorem emptyCase(n:List UInt8):∃b,(n == [])=b∧decide (n=[])=b∧n.isEmpty=b:=⟨_,rfl,by rw[Bool.eq_iff_iff];simp,by cases n <;> rfl⟩
theorem sSortsO_upto(m:Nat)(hmm:m<=1000000):∀(t:Raw)(v:Value)(w:World),t.size<=m->TreeV w t v ->
  Calls Tryz.prog 74 #[v] w (SortsO t w):=by
 induction m with
 |zero=>intro t v w h _;have:=t.size_pos;omega
 |succ m ih0 =>
  intro t v w hm hv;obtain⟨kd,nm,ps,ts⟩:=t;have hnl:=hv.name_le;obtain⟨A,c,rfl,hc,hA⟩:=hv.open_;simp only[Raw.size] at hm;have hlen:=Raw.sizes_len ts;have IH:=zH (ih0 (by omega));obtain⟨w0,hw0⟩:∃w0,w.alloc (.cells (zT kd nm ps A ts c) 51)=w0:=⟨_,rfl⟩;have b0:=zG hw0;have q0:=zQ hw0;have s0:=zL q0;obtain⟨x0,x1,x2,x3⟩:=cells4t q0;have HA:=zH (hA.below b0);have B0:=zH b0;have Q0:=zH q0;obtain⟨qn,hqn⟩:∃q,isName nm=q:=⟨_,rfl⟩;have HQN:Hid (isName nm=qn):=zH hqn;have CN:=zH (fun W=>rIsName_any nm W (by omega));rw[hqn] at CN;clear ih0 hA hv b0 q0 hqn;go_enter Tryz.func74,Tryz.ntmps74;go_upto_block 0 with fail;clear hw0;go_cut [0,3,4,5] (fun s0 s3 s4 s5 wx=>∃b3 b4 b5:Bool,s3=.bool b3/\s4=.bool b4/\s5=.bool b5/\zb w0 wx/\Hid (b5=true->kd=2->ts.length=2)/\Hid (b5=true->kd=3->ts.length=1)/\Hid (nodeB kd ps nm ts.length qn b3 b4 b5));case first =>
   by_cases k2:kd=2
   ·subst k2;by_cases e0:nm=[]
    ·subst e0;by_cases hl:ts.length=1
     ·have g1:((ts.length:Int) == 1)=true:=(by simp;omega);have g2:((ts.length:Int) == 2)=false:=(by simp;omega);have HLN:=zH hl;have HLD:Hid (decide (ts.length=1)=true):=zH (by simpa using hl);clear hl
      as_aux_lemma =>
       go_wp2_with (go_at_call 104;refine(CN.o _).mono ?_;rintro e w1⟨rfl,rfl⟩);all_goals go_meet
       all_goals exact⟨_,_,_,rfl,rfl,rfl,zB _ _,zH (fun h _=>by cases h),zH (fun _ e=>by cases e),zH ⟨fun e=>absurd e (by decide),fun e=>absurd e (by decide),fun e=>absurd e (by decide),fun e=>absurd e (by decide)⟩⟩
     have HLD:Hid (decide (ts.length=1)=false):=zH (by simpa using hl);have g1:((ts.length:Int) == 1)=false:=(by simp;omega);clear hl;by_cases hl:ts.length=2
     ·have g2:((ts.length:Int) == 2)=true:=(by simp;omega);have HLN:=zH hl;clear hl
      as_aux_lemma =>
       go_wp2_with (go_at_call 104;refine(CN.o _).mono ?_;rintro e w1⟨rfl,rfl⟩);all_goals go_meet
       all_goals exact⟨_,_,_,rfl,rfl,rfl,zB _ _,zH (fun _ _=>HLN.o),zH (fun _ e=>by cases e),zH ⟨fun e=>absurd e (by decide),fun e=>absurd e (by decide),fun e=>absurd e (by decide),fun e=>absurd e (by decide)⟩⟩
     have g2:((ts.length:Int) == 2)=false:=(by simp;omega);clear hl
     as_aux_lemma =>
      go_wp2_with (go_at_call 104;refine(CN.o _).mono ?_;rintro e w1⟨rfl,rfl⟩);all_goals go_meet
      all_goals exact⟨_,_,_,rfl,rfl,rfl,zB _ _,zH (fun h _=>by cases h),zH (fun _ e=>by cases e),zH ⟨fun e=>absurd e (by decide),fun e=>absurd e (by decide),fun e=>absurd e (by decide),fun e=>absurd e (by decide)⟩⟩
    by_cases e1:nm=[95]
    ·subst e1;by_cases hl:ts.length=1
     ·have g1:((ts.length:Int) == 1)=true:=(by simp;omega);have g2:((ts.length:Int) == 2)=false:=(by simp;omega);have HLN:=zH hl;have HLD:Hid (decide (ts.length=1)=true):=zH (by simpa using hl);clear hl
      as_aux_lemma =>
       go_wp2_with (go_at_call 104;refine(CN.o _).mono ?_;rintro e w1⟨rfl,rfl⟩);all_goals go_meet
       all_goals exact⟨_,_,_,rfl,rfl,rfl,zB _ _,zH (fun h _=>by cases h),zH (fun _ e=>by cases e),zH ⟨fun e=>absurd e (by decide),fun e=>absurd e (by decide),fun e=>absurd e (by decide),fun e=>absurd e (by decide)⟩⟩
     have HLD:Hid (decide (ts.length=1)=false):=zH (by simpa using hl);have g1:((ts.length:Int) == 1)=false:=(by simp;omega);clear hl;by_cases hl:ts.length=2
     ·have g2:((ts.length:Int) == 2)=true:=(by simp;omega);have HLN:=zH hl;clear hl
      as_aux_lemma =>
       go_wp2_with (go_at_call 104;refine(CN.o _).mono ?_;rintro e w1⟨rfl,rfl⟩);all_goals go_meet
       all_goals exact⟨_,_,_,rfl,rfl,rfl,zB _ _,zH (fun _ _=>HLN.o),zH (fun _ e=>by cases e),zH ⟨fun e=>absurd e (by decide),fun e=>absurd e (by decide),fun e=>absurd e (by decide),fun e=>absurd e (by decide)⟩⟩
     have g2:((ts.length:Int) == 2)=false:=(by simp;omega);clear hl
     as_aux_lemma =>
      go_wp2_with (go_at_call 104;refine(CN.o _).mono ?_;rintro e w1⟨rfl,rfl⟩);all_goals go_meet
      all_goals exact⟨_,_,_,rfl,rfl,rfl,zB _ _,zH (fun h _=>by cases h),zH (fun _ e=>by cases e),zH ⟨fun e=>absurd e (by decide),fun e=>absurd e (by decide),fun e=>absurd e (by decide),fun e=>absurd e (by decide)⟩⟩
    have x0:(nm == [])=false:=(by simpa using e0);have x1:(nm == [95])=false:=(by simpa using e1);have x2:nm.isEmpty=false:=(by cases nm with | nil=>exact absurd rfl e0 | cons a r=>rfl);have HN:=zJ (show decide (nm=[])=false by simpa using e0) (show decide (nm=[95])=false by simpa using e1);clear e0 e1;by_cases hl:ts.length=1
    ·have g1:((ts.length:Int) == 1)=true:=(by simp;omega);have g2:((ts.length:Int) == 2)=false:=(by simp;omega);have HLN:=zH hl;have HLD:Hid (decide (ts.length=1)=true):=zH (by simpa using hl);clear hl
     as_aux_lemma =>
      go_wp2_with (go_at_call 104;refine(CN.o _).mono ?_;rintro e w1⟨rfl,rfl⟩);all_goals go_meet
      all_goals exact⟨_,_,_,rfl,rfl,rfl,zB _ _,zH (fun h _=>by cases h),zH (fun _ e=>by cases e),zH ⟨fun e=>absurd e (by decide),fun e=>absurd e (by decide),fun e=>absurd e (by decide),fun e=>absurd e (by decide)⟩⟩
    have HLD:Hid (decide (ts.length=1)=false):=zH (by simpa using hl);have g1:((ts.length:Int) == 1)=false:=(by simp;omega);clear hl;by_cases hl:ts.length=2
    ·have g2:((ts.length:Int) == 2)=true:=(by simp;omega);have HLN:=zH hl;clear hl
     as_aux_lemma =>
      go_wp2_with (go_at_call 104;refine(CN.o _).mono ?_;rintro e w1⟨rfl,rfl⟩);all_goals go_meet
      all_goals exact⟨_,_,_,rfl,rfl,rfl,zB _ _,zH (fun _ _=>HLN.o),zH (fun _ e=>by cases e),zH ⟨fun e=>absurd e (by decide),fun e=>absurd e (by decide),fun e=>absurd e (by decide),fun e=>absurd e (by decide)⟩⟩
    have g2:((ts.length:Int) == 2)=false:=(by simp;omega);clear hl
    as_aux_lemma =>
     go_wp2_with (go_at_call 104;refine(CN.o _).mono ?_;rintro e w1⟨rfl,rfl⟩);all_goals go_meet
     all_goals exact⟨_,_,_,rfl,rfl,rfl,zB _ _,zH (fun h _=>by cases h),zH (fun _ e=>by cases e),zH ⟨fun e=>absurd e (by decide),fun e=>absurd e (by decide),fun e=>absurd e (by decide),fun e=>absurd e (by decide)⟩⟩
   by_cases k3:kd=3
   ·subst k3;obtain⟨p0,hp,hp',_⟩:=intCaseV ps 0;have HP:=zH hp';clear hp';by_cases e0:nm=[]
    ·subst e0;by_cases hl:ts.length=1
     ·have g1:((ts.length:Int) == 1)=true:=(by simp;omega);have g2:((ts.length:Int) == 2)=false:=(by simp;omega);have HLN:=zH hl;have HLD:Hid (decide (ts.length=1)=true):=zH (by simpa using hl);clear hl
      as_aux_lemma =>
       go_wp2_with (go_at_call 104;refine(CN.o _).mono ?_;rintro e w1⟨rfl,rfl⟩);all_goals go_meet
       all_goals exact⟨_,_,_,rfl,rfl,rfl,zB _ _,zH (fun _ e=>by cases e),zH (fun _ _=>HLN.o),zH ⟨fun _=>by rw[HP.o,HLD.o];cases qn <;> cases p0 <;> rfl,fun e=>absurd e (by decide),fun e=>absurd e (by decide),fun e=>absurd e (by decide)⟩⟩
     have HLD:Hid (decide (ts.length=1)=false):=zH (by simpa using hl);have g1:((ts.length:Int) == 1)=false:=(by simp;omega);clear hl;by_cases hl:ts.length=2
     ·have g2:((ts.length:Int) == 2)=true:=(by simp;omega);have HLN:=zH hl;clear hl
      as_aux_lemma =>
       go_wp2_with (go_at_call 104;refine(CN.o _).mono ?_;rintro e w1⟨rfl,rfl⟩);all_goals go_meet
       all_goals exact⟨_,_,_,rfl,rfl,rfl,zB _ _,zH (fun _ e=>by cases e),zH (fun h _=>by cases h),zH ⟨fun _=>by rw[HP.o,HLD.o];cases qn <;> cases p0 <;> rfl,fun e=>absurd e (by decide),fun e=>absurd e (by decide),fun e=>absurd e (by decide)⟩⟩
     have g2:((ts.length:Int) == 2)=false:=(by simp;omega);clear hl
     as_aux_lemma =>
      go_wp2_with (go_at_call 104;refine(CN.o _).mono ?_;rintro e w1⟨rfl,rfl⟩);all_goals go_meet
      all_goals exact⟨_,_,_,rfl,rfl,rfl,zB _ _,zH (fun _ e=>by cases e),zH (fun h _=>by cases h),zH ⟨fun _=>by rw[HP.o,HLD.o];cases qn <;> cases p0 <;> rfl,fun e=>absurd e (by decide),fun e=>absurd e (by decide),fun e=>absurd e (by decide)⟩⟩
    by_cases e1:nm=[95]
    ·subst e1;by_cases hl:ts.length=1
     ·have g1:((ts.length:Int) == 1)=true:=(by simp;omega);have g2:((ts.length:Int) == 2)=false:=(by simp;omega);have HLN:=zH hl;have HLD:Hid (decide (ts.length=1)=true):=zH (by simpa using hl);clear hl
      as_aux_lemma =>
       go_wp2_with (go_at_call 104;refine(CN.o _).mono ?_;rintro e w1⟨rfl,rfl⟩);all_goals go_meet
       all_goals exact⟨_,_,_,rfl,rfl,rfl,zB _ _,zH (fun _ e=>by cases e),zH (fun _ _=>HLN.o),zH ⟨fun _=>by rw[HP.o,HLD.o];cases qn <;> cases p0 <;> rfl,fun e=>absurd e (by decide),fun e=>absurd e (by decide),fun e=>absurd e (by decide)⟩⟩
     have HLD:Hid (decide (ts.length=1)=false):=zH (by simpa using hl);have g1:((ts.length:Int) == 1)=false:=(by simp;omega);clear hl;by_cases hl:ts.length=2
     ·have g2:((ts.length:Int) == 2)=true:=(by simp;omega);have HLN:=zH hl;clear hl
      as_aux_lemma =>
       go_wp2_with (go_at_call 104;refine(CN.o _).mono ?_;rintro e w1⟨rfl,rfl⟩);all_goals go_meet
       all_goals exact⟨_,_,_,rfl,rfl,rfl,zB _ _,zH (fun _ e=>by cases e),zH (fun h _=>by cases h),zH ⟨fun _=>by rw[HP.o,HLD.o];cases qn <;> cases p0 <;> rfl,fun e=>absurd e (by decide),fun e=>absurd e (by decide),fun e=>absurd e (by decide)⟩⟩
     have g2:((ts.length:Int) == 2)=false:=(by simp;omega);clear hl
     as_aux_lemma =>
      go_wp2_with (go_at_call 104;refine(CN.o _).mono ?_;rintro e w1⟨rfl,rfl⟩);all_goals go_meet
      all_goals exact⟨_,_,_,rfl,rfl,rfl,zB _ _,zH (fun _ e=>by cases e),zH (fun h _=>by cases h),zH ⟨fun _=>by rw[HP.o,HLD.o];cases qn <;> cases p0 <;> rfl,fun e=>absurd e (by decide),fun e=>absurd e (by decide),fun e=>absurd e (by decide)⟩⟩
    have x0:(nm == [])=false:=(by simpa using e0);have x1:(nm == [95])=false:=(by simpa using e1);have x2:nm.isEmpty=false:=(by cases nm with | nil=>exact absurd rfl e0 | cons a r=>rfl);have HN:=zJ (show decide (nm=[])=false by simpa using e0) (show decide (nm=[95])=false by simpa using e1);clear e0 e1;by_cases hl:ts.length=1
    ·have g1:((ts.length:Int) == 1)=true:=(by simp;omega);have g2:((ts.length:Int) == 2)=false:=(by simp;omega);have HLN:=zH hl;have HLD:Hid (decide (ts.length=1)=true):=zH (by simpa using hl);clear hl
     as_aux_lemma =>
      go_wp2_with (go_at_call 104;refine(CN.o _).mono ?_;rintro e w1⟨rfl,rfl⟩);all_goals go_meet
      all_goals exact⟨_,_,_,rfl,rfl,rfl,zB _ _,zH (fun _ e=>by cases e),zH (fun _ _=>HLN.o),zH ⟨fun _=>by rw[HN.o.1,HN.o.2,HP.o,HLD.o];cases qn <;> cases p0 <;> rfl,fun e=>absurd e (by decide),fun e=>absurd e (by decide),fun e=>absurd e (by decide)⟩⟩
    have HLD:Hid (decide (ts.length=1)=false):=zH (by simpa using hl);have g1:((ts.length:Int) == 1)=false:=(by simp;omega);clear hl;by_cases hl:ts.length=2
    ·have g2:((ts.length:Int) == 2)=true:=(by simp;omega);have HLN:=zH hl;clear hl
     as_aux_lemma =>
      go_wp2_with (go_at_call 104;refine(CN.o _).mono ?_;rintro e w1⟨rfl,rfl⟩);all_goals go_meet
      all_goals exact⟨_,_,_,rfl,rfl,rfl,zB _ _,zH (fun _ e=>by cases e),zH (fun h _=>by cases h),zH ⟨fun _=>by rw[HN.o.1,HN.o.2,HP.o,HLD.o];cases qn <;> cases p0 <;> rfl,fun e=>absurd e (by decide),fun e=>absurd e (by decide),fun e=>absurd e (by decide)⟩⟩
    have g2:((ts.length:Int) == 2)=false:=(by simp;omega);clear hl
    as_aux_lemma =>
     go_wp2_with (go_at_call 104;refine(CN.o _).mono ?_;rintro e w1⟨rfl,rfl⟩);all_goals go_meet
     all_goals exact⟨_,_,_,rfl,rfl,rfl,zB _ _,zH (fun _ e=>by cases e),zH (fun h _=>by cases h),zH ⟨fun _=>by rw[HN.o.1,HN.o.2,HP.o,HLD.o];cases qn <;> cases p0 <;> rfl,fun e=>absurd e (by decide),fun e=>absurd e (by decide),fun e=>absurd e (by decide)⟩⟩
   by_cases k4:kd=4
   ·subst k4;obtain⟨p0,hp,hp',_⟩:=intCaseV ps 0;have HH:=zH hp';clear hp';go_wp2_with (go_at_call 104;refine(CN.o _).mono ?_;rintro e w1⟨rfl,rfl⟩);all_goals go_meet
    all_goals exact⟨_,_,_,rfl,rfl,rfl,zB _ _,zH (fun _ e=>by cases e),zH (fun _ e=>by cases e),zH ⟨fun e=>absurd e (by decide),fun _=>by rw[HH.o];cases qn <;> cases p0 <;> rfl,fun e=>absurd e (by decide),fun e=>absurd e (by decide)⟩⟩
   by_cases k5:kd=5
   ·subst k5;obtain⟨b0_,h0,h0',h0e⟩:=emptyCase nm;obtain⟨u1,v1,v1'⟩:∃b,decide (ps≥0)=b/\decide (0<=ps)=b:=⟨_,rfl,rfl⟩;obtain⟨u2,v2⟩:∃b,decide (ps<=1048576)=b:=⟨_,rfl⟩;have HH:=zJ h0' (And.intro v1' v2);have HE:=zH h0e;clear h0';cases u1 <;> cases u2;all_goals
     go_wp2_with fail;go_meet;exact⟨_,_,_,rfl,rfl,rfl,zB _ _,zH (fun _ e=>by cases e),zH (fun _ e=>by cases e),zH ⟨fun e=>absurd e (by decide),fun e=>absurd e (by decide),fun _=>by rw[HH.o.1,HH.o.2.1,HH.o.2.2];(try rw[HE.o]) <;> (cases b0_ <;> rfl),fun e=>absurd e (by decide)⟩⟩
   by_cases k6:kd=6
   ·subst k6;obtain⟨b0_,h0,h0',h0e⟩:=emptyCase nm;obtain⟨u1,v1,v1'⟩:∃b,decide (ps≥0)=b/\decide (0<=ps)=b:=⟨_,rfl,rfl⟩;obtain⟨u2,v2⟩:∃b,decide (ps<2048)=b:=⟨_,rfl⟩;have HH:=zJ h0' (And.intro v1' v2);have HE:=zH h0e;clear h0';cases u1 <;> cases u2;all_goals
     go_wp2_with fail;go_meet;exact⟨_,_,_,rfl,rfl,rfl,zB _ _,zH (fun _ e=>by cases e),zH (fun _ e=>by cases e),zH ⟨fun e=>absurd e (by decide),fun e=>absurd e (by decide),fun e=>absurd e (by decide),fun _=>by rw[HH.o.1,HH.o.2.1,HH.o.2.2];(try rw[HE.o]) <;> (cases b0_ <;> rfl)⟩⟩
   have z2:(kd == 2)=false:=(by simpa using k2);have HK2:=zH k2;have z3:(kd == 3)=false:=(by simpa using k3);have HK3:=zH k3;have z4:(kd == 4)=false:=(by simpa using k4);have HK4:=zH k4;have z5:(kd == 5)=false:=(by simpa using k5);have HK5:=zH k5;have z6:(kd == 6)=false:=(by simpa using k6);have HK6:=zH k6;clear k2 k3 k4 k5 k6;go_wp2_with fail;all_goals go_meet
   all_goals exact⟨_,_,_,rfl,rfl,rfl,zB _ _,zH (fun _ e=>absurd e HK2.o),zH (fun _ e=>absurd e HK3.o),zH ⟨fun e=>absurd e HK3.o,fun e=>absurd e HK4.o,fun e=>absurd e HK5.o,fun e=>absurd e HK6.o⟩⟩
  obtain⟨b3,b4,b5,rfl,rfl,rfl,bw,H2,H3,HNB⟩:=hcut;have HOBJ:Hid ((Raw.node kd nm ps ts).obj=(decide (kd=3\/kd=4\/kd=5\/kd=6) && (b3 && b4 && b5) && Raw.objs ts)):=zH (obj_of (by have h:=HNB.o;rw[<-HQN.o] at h;exact h));have BW:=zH (B0.o.trans (bw.mono B0.o.size));obtain⟨x0,x1,x2,x3⟩:=cells4t ((bw.block _ s0).trans Q0.o);have HA:=zH (HA.o.below bw);have QW:=zH ((bw.block _ s0).trans Q0.o);have sw:w.heap.size<wc.heap.size:=zL QW.o;clear bw;by_cases hall:b3=true/\b4=true/\b5=true
  ·obtain⟨rfl,rfl,rfl⟩:=hall;have H2:=H2.o rfl;have H3:=H3.o rfl;by_cases k1:kd=1
   ·subst k1;clear H2 H3;go_wp2_with fail;go_ret;exact sortsO_no (r:=4) (by omega) (by omega) (by rw[HOBJ.o];rfl) BW.o
   have g1:(kd == 1)=false:=(by simpa using k1);clear k1;by_cases k2:kd=2
   ·subst k2;have hl2:=H2 rfl;clear H2 H3;have hm0:=Raw.sizes_mem ts ts[0] (Ze _);have hm1:=Raw.sizes_mem ts ts[1] (Ze _);obtain⟨b,o,k1,n1,p1,us,B,c1,rfl,hb,ht,d0,d1,d2,d3,hcu,hB,hT⟩:=HA.o.at_ (i:=0) (by omega);have hlz:(0:Int)<(ts.length:Int):=(by omega);simp only[Nat.zero_mul,Nat.add_zero] at d0 d1 d2 d3;clear hB ht;go_wp2_with fail;refine(IH.o ts[0] _ _ (by omega) hT).mono ?_;rintro e w1⟨⟨r,hr,rfl,hro⟩,hb1⟩;obtain⟨r2,hr2,_,he⟩:=and_even hr 2 (.inl rfl);clear hro;clear d0 d1 d2 d3 x0 x1 x2 x3;have BW1:=zH (BW.o.trans (hb1.mono BW.o.size));obtain⟨x0,x1,x2,x3⟩:=cells4t ((hb1.block _ sw).trans QW.o);by_cases hz:r2=0
    ·subst hz;clear hb1;go_wp2_with fail;go_ret;exact sortsO_no (r:=0) (by omega) (by omega) (by rw[HOBJ.o];rfl) BW1.o
    have hz2:((r2:Int) == 0)=false:=(by simp;omega);obtain⟨b',o',k2,n2,p2,us2,B2,c2,hA2,hb',ht',d0,d1,d2,d3,hcu',hB',hT'⟩:=(HA.o.below hb1).at_ (i:=1) (by omega);cases hA2;have hlo:(1:Int)<(ts.length:Int):=(by omega);simp only[Nat.one_mul] at d0 d1 d2 d3;clear hB' ht' hb1;go_wp2_with fail;refine(IH.o ts[1] _ _ (by omega) hT').mono ?_;rintro e w3⟨⟨r3,hr3,rfl,_⟩,hb3⟩;obtain⟨r4,hr4,hr5,he4⟩:=and_even hr3 6 (.inr rfl);have HR5:=zH hr5;clear hr5;go_wp2_with fail;go_ret;exact sortsO_no hr4 HR5.o (by rw[HOBJ.o];rfl) (BW1.o.trans (hb3.mono BW1.o.size))
   have g2:(kd == 2)=false:=(by simpa using k2);by_cases k3:kd=3
   ·subst k3;have hl1:=H3 rfl;clear H2 H3;have hm0:=Raw.sizes_mem ts ts[0] (Ze _);obtain⟨b,o,k1,n1,p1,us,B,c1,rfl,hb,ht,d0,d1,d2,d3,hcu,hB,hT⟩:=HA.o.at_ (i:=0) (by omega);have hlz:(0:Int)<(ts.length:Int):=(by omega);simp only[Nat.zero_mul,Nat.add_zero] at d0 d1 d2 d3;clear hB ht;go_wp2_with fail;refine(IH.o ts[0] _ _ (by omega) hT).mono ?_;rintro e w1⟨⟨r,hr,rfl,hro⟩,hb1⟩;obtain⟨r2,hr2,hr5,he⟩:=and_one hr;have HOO:Hid (Raw.objs ts=ts[0].obj):=zH (by
     obtain⟨u,hu⟩:=Lfc.len_one hl1;subst hu;simp[Raw.objs])
    have HR5:Hid (r2 % 2=1↔(Raw.node 3 nm ps ts).obj=true):=zH (by
     have e:(Raw.node 3 nm ps ts).obj=ts[0].obj:=(by rw[HOBJ.o,HOO.o];rfl);rw[e,<-hro,hr5];omega)
    clear hro hr5;go_wp2_with fail;go_ret;exact sortsO_ret hr2 HR5.o (BW.o.trans (hb1.mono BW.o.size))
   have g3:(kd == 3)=false:=(by simpa using k3);clear H2 H3 k2 k3;by_cases k456:kd=4\/kd=5\/kd=6
   ·rcases k456 with rfl | rfl | rfl;all_goals
     go_wp2_with fail;go_loopw [6] (fun i wr=>∃k:Nat,k<=ts.length/\i=zI k/\zb wc wr/\Hid (∀(n:Nat)(h:n<ts.length),n<k->ts[n].obj=true)) (fun i _=>ts.length-(intOf i).toNat);case atStart=>exact⟨0,by omega,rfl,zB _ _,zH (fun n h h'=>by omega)⟩
     obtain⟨k,hk,rfl,hbw,HSO⟩:=hrel;clear x0 x1 x2 x3;obtain⟨x0,x1,x2,x3⟩:=cells4t ((hbw.block _ sw).trans QW.o);have BR:=zH (BW.o.trans (hbw.mono BW.o.size));have hsr:=hbw.size;by_cases hlt:k<ts.length
     ·have hm0:=Raw.sizes_mem ts ts[k] (Ze _);obtain⟨b,o,k1,n1,p1,us,B,c1,rfl,hb,ht,d0,d1,d2,d3,hcu,hB,hT⟩:=(HA.o.below hbw).at_ hlt;have HBW:=zH hbw;clear hB ht hbw;go_wp2_with fail;refine(IH.o ts[k] _ _ (by omega) hT).mono ?_;rintro e w1⟨⟨r,hr,rfl,hro⟩,hb1⟩;obtain⟨r2,hr2,hr5,he⟩:=and_one hr;have HRO:=zJ hro hr5;clear hro hr5;clear x0 x1 x2 x3 d0 d1 d2 d3;by_cases hz:r2=0
      ·subst hz;go_wp2_with fail;go_ret;exact sortsO_no (r:=0) (by omega) (by omega) (by rw[HOBJ.o,objs_false ts k hlt (by have h:=HRO.o;cases hh:ts[k].obj with | false=>rfl | true=>(have:=h.1.2 hh;omega))];exact Bool.and_false _) (BR.o.trans (hb1.mono BR.o.size))
      have hz2:((r2:Int) == 0)=false:=(by simp;omega);go_wp2_with fail;go_roundw;case rel=>exact⟨k+1,by omega,by go_num,HBW.o.trans (hb1.mono hsr),zH (fun n h h'=>by
       by_cases hnk:n=k
       ·subst hnk;exact HRO.o.1.1 (by have:=HRO.o.2;omega)
       exact HSO.o n h (by omega))⟩
      case measure=>simp[intOf];omega
     have HOO:Hid (Raw.objs ts=true):=zH ((objs_spec ts).2 (fun n h=>HSO.o n h (by omega)));clear hbw;go_wp2_with fail;go_ret;first | exact sortsO_ret (r:=3) (by omega) ⟨fun _=>by rw[HOBJ.o,HOO.o];rfl,fun _=>rfl⟩ BR.o | exact sortsO_ret (r:=1) (by omega) ⟨fun _=>by rw[HOBJ.o,HOO.o];rfl,fun _=>rfl⟩ BR.o
   have g4:(kd == 4)=false:=(by simp;omega);have g5:(kd == 5)=false:=(by simp;omega);have g6:(kd == 6)=false:=(by simp;omega);have HZO:Hid ((Raw.node kd nm ps ts).obj=false):=zH (by rw[HOBJ.o,Zu (by intro h;rcases h with h | h | h | h <;> simp_all)];rfl);clear k456;go_wp2_with fail;go_ret;exact sortsO_no (r:=0) (by omega) (by omega) HZO.o BW.o
  clear H2 H3;have h3:b3=false\/(b3=true/\b4=false)\/(b3=true/\b4=true/\b5=false):=by
   cases b3
   ·exact .inl rfl
   cases b4
   ·exact .inr (.inl ⟨rfl,rfl⟩)
   cases b5
   ·exact .inr (.inr ⟨rfl,rfl,rfl⟩)
   exact absurd ⟨rfl,rfl,rfl⟩ hall
  clear hall;rcases h3 with rfl | ⟨rfl,rfl⟩ | ⟨rfl,rfl,rfl⟩;all_goals
   go_wp2_with fail;go_ret;exact sortsO_no (r:=0) (by omega) (by omega) (by rw[HOBJ.o];simp) BW.o
theorem sSmallX_any(t:Raw)(v:Value)(w:World)(ht:t.size<=1000000)(hv:TreeV w t v) :
  Calls Tryz.prog 75 #[v] w fun e w'=>e=.returned (.bool t.small)/\zb w w':=by
 have HV:=zH hv;have HSM:Hid (t.small=(decide (t.size<=4096) && decide (t.depth<=128))):=zH rfl;obtain⟨R,hR⟩:∃R,t.small=R:=⟨_,rfl⟩;rw[hR] at HSM ⊢;clear hR;obtain⟨kd,nm,ps,ts⟩:=t;obtain⟨A,c,rfl,hc,hA⟩:=hv.open_;obtain⟨w0,hw0⟩:∃w0,w.alloc (.cells (zT kd nm ps A ts c) 51)=w0:=⟨_,rfl⟩;have b0:=zG hw0;have q0:=zQ hw0;have s0:=zL q0;obtain⟨x0,x1,x2,x3⟩:=cells4v q0;have C1:=zH (fun W (hb:zb w0 W)=>sSize_any _ _ _ W (zN _) (by omega) (HV.o.below (b0.trans (hb.mono b0.size))));have C2:=zH (fun W (hb:zb w0 W)=>sDepth_any _ _ _ W (zN _) (by omega) (HV.o.below (b0.trans (hb.mono b0.size))));have B0:=zH b0;have Q0:=zH q0;generalize (Raw.node kd nm ps ts).size=z at *;generalize (Raw.node kd nm ps ts).depth=y at *;clear hv hA b0 q0 ht;go_enter Tryz.func75,Tryz.ntmps75;go_wp2_with fail;refine(C1.o _ (zB _ _)).mono ?_;rintro e w1⟨rfl,hb1⟩;clear x0 x1 x2 x3 hw0;obtain⟨x0,x1,x2,x3⟩:=cells4v ((hb1.block _ s0).trans Q0.o);have HB1:=zH hb1;by_cases hz:z<=4096
 ·have hz1:decide ((z:Int)<=4096)=true:=by simp;omega
  have HZ:=zH hz;clear hz hb1;go_wp2_with fail;refine(C2.o _ HB1.o).mono ?_;rintro e w2⟨rfl,hb2⟩;have HB2:=zH (B0.o.trans ((HB1.o.trans (hb2.mono HB1.o.size)).mono B0.o.size));clear hb2;by_cases hy:y<=128
  ·have hy1:decide ((y:Int)<=128)=true:=(by simp;omega);have HR:Hid (R=true):=zH (by rw[HSM.o,Zt HZ.o,Zt hy];rfl);clear hy;go_wp2_with fail;go_ret;exact⟨by rw[HR.o];rfl,HB2.o⟩
  have hy1:decide ((y:Int)<=128)=false:=by simp;omega
  have HR:Hid (R=false):=zH (by rw[HSM.o,Zu hy,Bool.and_false]);clear hy;go_wp2_with fail;go_ret;exact⟨by rw[HR.o];rfl,HB2.o⟩
 have hz1:decide ((z:Int)<=4096)=false:=by simp;omega
 have HR:Hid (R=false):=zH (by rw[HSM.o,Zu hz,Bool.false_and]);clear hz hb1;go_wp2_with fail;go_ret;exact⟨by rw[HR.o];rfl,B0.o.trans (HB1.o.mono B0.o.size)⟩
theorem sIsObject_any(t:Raw)(v:Value)(w:World)(ht:t.size<=1000000)(hv:TreeV w t v) :
  Calls Tryz.prog 78 #[v] w fun e w'=>e=.returned (.bool t.isO)/\zb w w':=by
 have HV:=zH hv;have HSM:Hid (t.isO=(t.obj && t.small)):=zH rfl;obtain⟨R,hR⟩:∃R,t.isO=R:=⟨_,rfl⟩;rw[hR] at HSM ⊢;clear hR;obtain⟨kd,nm,ps,ts⟩:=t;obtain⟨A,c,rfl,hc,hA⟩:=hv.open_;obtain⟨w0,hw0⟩:∃w0,w.alloc (.cells (zT kd nm ps A ts c) 51)=w0:=⟨_,rfl⟩;have b0:=zG hw0;have q0:=zQ hw0;have s0:=zL q0;obtain⟨x0,x1,x2,x3⟩:=cells4v q0;have C1:=zH (fun W (hb:zb w0 W)=>sSortsO_upto 1000000 (by omega) _ _ W ht (HV.o.below (b0.trans (hb.mono b0.size))));have C2:=zH (fun W (hb:zb w0 W)=>sSmallX_any _ _ W ht (HV.o.below (b0.trans (hb.mono b0.size))));have B0:=zH b0;have Q0:=zH q0;generalize (Raw.node kd nm ps ts).small=z at *;obtain⟨ob,hob⟩:∃ob,(Raw.node kd nm ps ts).obj=ob:=⟨_,rfl⟩;have HOB:=zH hob;rw[hob] at HSM;clear hv hA b0 q0 ht hob;go_enter Tryz.func78,Tryz.ntmps78;go_wp2_with fail;refine(C1.o _ (zB _ _)).mono ?_;rintro e w1⟨⟨r,hr,rfl,hro⟩,hb1⟩;clear x0 x1 x2 x3 hw0;obtain⟨x0,x1,x2,x3⟩:=cells4v ((hb1.block _ s0).trans Q0.o);have HB1:=zH hb1;obtain⟨r2,hr2,hr5,he⟩:=and_one hr;rw[HOB.o] at hro;have HRO:=zJ hro hr5;clear hro hr5 hb1;by_cases hz:r2=0
 ·subst hz;have HR:Hid (R=false):=zH (by
   cases ob with
   |true=>have:=HRO.o.1.2 rfl;have:=HRO.o.2;omega
   |false=>rw[HSM.o];rfl)
  go_wp2_with fail;go_ret;exact⟨by rw[HR.o];rfl,B0.o.trans (HB1.o.mono B0.o.size)⟩
 have hz1:((r2:Int) == 0)=false:=by simp;omega
 have hz2:((r2:Int) != 0)=true:=by simp;omega
 have HR:Hid (R=z):=zH (by
  have:ob=true:=HRO.o.1.1 (by have:=HRO.o.2;omega);rw[HSM.o,this];rfl)
 clear hz;go_wp2_with fail;refine(C2.o _ HB1.o).mono ?_;rintro e w2⟨rfl,hb2⟩;have HB2:=zH (B0.o.trans ((HB1.o.trans (hb2.mono HB1.o.size)).mono B0.o.size));clear hb2;go_wp2_with fail;go_ret;exact⟨by rw[HR.o];rfl,HB2.o⟩
theorem sWfO_any(t:Raw)(v:Value)(w:World)(ht:t.size<=1000000)(ho:t.isO=true)(hv:TreeV w t v) :
  Calls Tryz.prog 47 #[v] w fun e w'=>e=.returned (zI 0)/\zb w w':=by
 have HV:=zH hv;have hos:t.obj=true/\t.small=true:=by
  rw[Raw.isO,Za] at ho;exact ho
 have HOS:=zH hos;obtain⟨kd,nm,ps,ts⟩:=t;obtain⟨A,c,rfl,hc,hA⟩:=hv.open_;obtain⟨w0,hw0⟩:∃w0,w.alloc (.cells (zT kd nm ps A ts c) 51)=w0:=⟨_,rfl⟩;have b0:=zG hw0;have q0:=zQ hw0;have s0:=zL q0;obtain⟨x0,x1,x2,x3⟩:=cells4v q0;have C1:=zH (fun W (hb:zb w0 W)=>sSortsO_upto 1000000 (by omega) _ _ W ht (HV.o.below (b0.trans (hb.mono b0.size))));have C2:=zH (fun W (hb:zb w0 W)=>(by have h:=sSmallX_any _ _ W ht (HV.o.below (b0.trans (hb.mono b0.size)));rwa[HOS.o.2] at h:Calls Tryz.prog 75 #[.agg (zT kd nm ps A ts c)] W fun e w'=>e=.returned (.bool true)/\zb W w'));have B0:=zH b0;have Q0:=zH q0;clear hv hA b0 q0 ht hos ho;go_enter Tryz.func47,Tryz.ntmps47;go_wp2_with fail;refine(C1.o _ (zB _ _)).mono ?_;rintro e w1⟨⟨r,hr,rfl,hro⟩,hb1⟩;clear x0 x1 x2 x3 hw0;obtain⟨x0,x1,x2,x3⟩:=cells4v ((hb1.block _ s0).trans Q0.o);have HB1:=zH hb1;have hz:r≠0:=by
  have:=hro.2 HOS.o.1;omega
 have hz1:((r:Int) == 0)=false:=by simp;omega
 clear hz hb1 hro;go_wp2_with fail;refine(C2.o _ HB1.o).mono ?_;rintro e w2⟨rfl,hb2⟩;have HB2:=zH (B0.o.trans ((HB1.o.trans (hb2.mono HB1.o.size)).mono B0.o.size));clear hb2;go_wp2_with fail;go_ret;exact⟨rfl,HB2.o⟩
theorem rObjects_any(ts:List Raw)(A:Option Addr)(c:Nat)(w:World)(hn:ts.length<=1000000)(hs:∀t∈ts,t.size<=1000000)(h:TreesAt w A ts) :
  Calls Tryz.prog 65 #[.slice A ts.length c] w fun e w'=>e=.returned (.bool (allO ts))/\zb w w':=by
 have H:=zH h;have HS:=zH hs;obtain⟨R,hR⟩:∃R,allO ts=R:=⟨_,rfl⟩;rw[hR];have HR:=zH hR;clear hR;obtain⟨N,hN⟩:∃N,ts.length=N:=⟨_,rfl⟩;rw[hN] at hn ⊢;have HN:=zH hN;clear h hs hN;go_enter Tryz.func65,Tryz.ntmps65;go_wp2_with fail;go_loopw [3] (fun i wr=>∃k:Nat,k<=N/\i=zI (k:Int)/\Hid (zb w wr/\R=allO (ts.drop k))) (fun i _=>N-(intOf i).toNat);case atStart=>exact⟨0,by omega,rfl,zH ⟨zB _ _,by rw[List.drop_zero];exact HR.o.symm⟩⟩
 obtain⟨k,hk,rfl,HI⟩:=hrel;have hbw:=HI.o.1;by_cases hlt:k<N
 ·have hlt2:k<ts.length:=by rw[HN.o];exact hlt
  obtain⟨b,o,k1,n1,p1,us,B,c1,rfl,hb,ht,d0,d1,d2,d3,hcu,hB,hT⟩:=(H.o.below hbw).at_ hlt2;have CALL:=zH (sIsObject_any ts[k] _ wr (HS.o _ (Ze hlt2)) hT);have hi0:=zP k;have hi1:(k:Int)<(N:Int):=by omega
  have HBW:=zH hbw;have HD:=zH (allO_drop hlt2);obtain⟨g,hg⟩:∃g,ts[k].isO=g:=⟨_,rfl⟩;rw[hg] at CALL HD;clear hg;clear hB ht hT hbw hb;go_wp2_with fail;refine CALL.o.mono ?_;rintro e w1⟨rfl,hb1⟩;have HB1:=zH (HBW.o.trans (hb1.mono HBW.o.size));clear hb1 d0 d1 d2 d3 CALL;cases g with
  |true =>
   have HQ:Hid (R=allO (ts.drop (k+1))):=zH (by rw[HI.o.2,HD.o];rfl);clear HI;go_wp2_with fail;go_roundw;case rel=>exact⟨k+1,by omega,by go_num,zH ⟨HB1.o,HQ.o⟩⟩
   case measure=>simp[intOf];omega
  |false =>
   have HQ:Hid (R=false):=zH (by rw[HI.o.2,HD.o];rfl);clear HI;go_wp2_with fail;go_ret;exact⟨by rw[HQ.o];rfl,HB1.o⟩
 have hkN:k=N:=by omega
 have hi0:¬((k:Int)<(N:Int)):=by omega
 have HQ:Hid (R=true):=zH (by rw[HI.o.2,List.drop_of_length_le (by rw[HN.o];omega)];rfl);have HBW:=zH hbw;clear HI hbw hkN;go_wp2_with fail;go_ret;exact⟨by rw[HQ.o];rfl,HBW.o⟩
theorem rFormedO_any(ts:List Raw)(A:Option Addr)(c:Nat)(w:World)(hn:ts.length<=1000000)(hs:∀t∈ts,t.size<=1000000)(ho:∀t∈ts,t.isO=true)(h:TreesAt w A ts) :
  Calls Tryz.prog 49 #[.slice A ts.length c] w fun e w'=>e=.returned (zI 0)/\zb w w':=by
 have H:=zH h;have HS:=zH hs;have HO:=zH ho;clear ho;obtain⟨N,hN⟩:∃N,ts.length=N:=⟨_,rfl⟩;rw[hN] at hn ⊢;have HN:=zH hN;clear h hs hN;go_enter Tryz.func49,Tryz.ntmps49;go_wp2_with fail;go_loopw [3] (fun i wr=>∃k:Nat,k<=N/\i=zI (k:Int)/\Hid (zb w wr)) (fun i _=>N-(intOf i).toNat);case atStart=>exact⟨0,by omega,rfl,zH (zB _ _)⟩
 obtain⟨k,hk,rfl,HI⟩:=hrel;have hbw:=HI.o;by_cases hlt:k<N
 ·have hlt2:k<ts.length:=by rw[HN.o];exact hlt
  obtain⟨b,o,k1,n1,p1,us,B,c1,rfl,hb,ht,d0,d1,d2,d3,hcu,hB,hT⟩:=(H.o.below hbw).at_ hlt2;have CALL:=zH (sWfO_any ts[k] _ wr (HS.o _ (Ze hlt2)) (HO.o _ (Ze hlt2)) hT);have hi0:=zP k;have hi1:(k:Int)<(N:Int):=by omega
  have HBW:=zH hbw;clear hB ht hT hbw hb;go_wp2_with fail;refine CALL.o.mono ?_;rintro e w1⟨rfl,hb1⟩;have HB1:=zH (HBW.o.trans (hb1.mono HBW.o.size));clear hb1 d0 d1 d2 d3 CALL;clear HI;go_wp2_with fail;go_roundw;case rel=>exact⟨k+1,by omega,by go_num,HB1⟩
  case measure=>simp[intOf];omega
 have hkN:k=N:=by omega
 have hi0:¬((k:Int)<(N:Int)):=by omega
 have HBW:=zH hbw;clear HI hbw hkN;go_wp2_with fail;go_ret;exact⟨rfl,HBW.o⟩
end Go.Proofs.YtadjpadieljjlaaGreat
