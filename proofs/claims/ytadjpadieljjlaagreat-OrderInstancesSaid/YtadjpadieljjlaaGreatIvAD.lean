/- Parts of the proof that no input makes the law false: OrMv, OrPar, OrStand, OrStand2. -/
import Derived.Deep.DrawnRows
import Derived.RegionTactic
import Derived.Laws.MakeOwn
import Derived.Deep.OwnRows
import Derived.Test.YtadjpadieljjlaaGreatIvAC
set_option linter.unusedVariables false
set_option linter.unusedSimpArgs false
set_option maxRecDepth 100000
set_option maxHeartbeats 32000000
namespace Go.Proofs.YtadjpadieljjlaaGreat
open Go.RowKit Go.Maps
attribute [local go_sem ↓] Go.wp_at_zero Go.wp_at_succ
theorem below_of_oth {T:Nat} {A B:World} (h:Oth T A B) (hT:B.heap[T]?=A.heap[T]?):Below A.heap.size A B :=
 ⟨h.os,h.tape,h.output,h.size,fun b hb=>by
  by_cases e:b=T
  ·rw [e];exact hT
  exact h.block b hb (fun e'=>e (zO e'))⟩
theorem oput3 {W:World} {R:Nat} {a0 a1 a2:Value} {t:TypeId} (h:W.heap[R]?=some (.cells #[a0,a1,a2] t (0,0))) (v0 v1 v2:Value):∃s1 s2 s3,W.setCell ⟨R,0,none⟩ v0=s1∧s1.setCell ⟨R,1,none⟩ v1=s2∧s2.setCell ⟨R,2,none⟩ v2=s3 ∧
  (W.cell? ⟨R,0,none⟩=some a0∧s1.cell? ⟨R,1,none⟩=some a1∧s2.cell? ⟨R,2,none⟩=some a2) ∧
  (W.frozen? ⟨R,0,none⟩=false∧s1.frozen? ⟨R,1,none⟩=false∧s2.frozen? ⟨R,2,none⟩=false) ∧
  s3.heap[R]?=some (.cells #[v0,v1,v2] t (0,0))∧Oth R W s3:=by
 obtain ⟨s1,h1⟩:∃s1,W.setCell ⟨R,0,none⟩ v0=s1:=⟨_,rfl⟩
 obtain ⟨s2,h2⟩:∃s2,s1.setCell ⟨R,1,none⟩ v1=s2:=⟨_,rfl⟩
 obtain ⟨s3,h3⟩:∃s3,s2.setCell ⟨R,2,none⟩ v2=s3:=⟨_,rfl⟩
 have q1:s1.heap[R]?=some (.cells #[v0,a1,a2] t (0,0)):=by rw [←h1];simp [World.setCell,Array.getElem?_modify,h]
 have q2:s2.heap[R]?=some (.cells #[v0,v1,a2] t (0,0)):=by rw [←h2];simp [World.setCell,Array.getElem?_modify,q1]
 have q3:s3.heap[R]?=some (.cells #[v0,v1,v2] t (0,0)):=by rw [←h3];simp [World.setCell,Array.getElem?_modify,q2]
 refine ⟨s1,s2,s3,h1,h2,h3,⟨zC h 0,zC q1 1,zC q2 2⟩,⟨zF h 0,zF q1 1,zF q2 2⟩,q3,?_⟩
 rw [←h3,←h2,←h1]
 exact ((Oth.set W v0).trans (Oth.set _ v1)).trans (Oth.set _ v2)
theorem ord_node (o:Lfc.Ord):∃k a ts,o=.node k a ts:=by
 cases o with
 | node k a ts=>exact ⟨k,a,ts,rfl⟩
theorem oalloc_loc {w:World} {o:Obj} {v v':Value} (h:v'.ownBlock=v.ownBlock∨v'.ownBlock=some (w.alloc o).heap.size):v'.ownBlock=v.ownBlock∨v'.ownBlock=some (w.heap.size+1):=by simpa using h
theorem oalloc_le {w:World} {o:Obj} {b:Nat} (h:b≤w.heap.size):b≤(w.alloc o).heap.size:=by simp;omega
theorem ocells_new (W:World) (n:Nat) (hn:n=W.heap.size) (xs:List Value) (e:TypeId) (j:Nat) (u:Value) (h:xs[j]?=some u):(W.alloc (.cells xs.toArray e)).cell? ((⟨n,0,none⟩:Addr).add j)=some u:=by
 subst hn
 rw [ocell_add,zC (zW W _)]
 simpa using h
theorem oform {w:World} {base:Nat} {e:TypeId} {size n:Nat} {v:Value} {xs:List Value} (h:w.ownsRow base e size v n xs):∃A c,v=.slice A n c:=by
 rcases h.2 with ⟨rfl,rfl⟩ | ⟨g,cap,cur,rfl,_⟩
 ·exact ⟨_,_,rfl⟩
 exact ⟨_,_,rfl⟩
theorem oneCell3 {k a:Int} {A:Option Addr} {l c:Nat}:∀u∈[Value.int .i64 k,.int .i64 a,.slice A l c],u.oneCell'=true:=by
 intro u hu
 simp at hu
 rcases hu with rfl | rfl | rfl <;> rfl
structure MvI (wa:World) (T R base:Nat) (k a:Int) (os:List Lfc.Ord) (A:Option Addr) (c:Nat) (xs:List Value) (wr:World):Prop where
 r:wr.heap[R]?=some (.cells #[.int .i64 k,.int .i64 a,.slice A os.length c] 26 (0,0))
 own:wr.ownsRow base 26 3 (.slice A os.length c) os.length xs
 row:ORow (fun b=>base≤b∧some b≠(Value.slice A os.length c).ownBlock) wr os xs
 bel:Below wa.heap.size wa wr
 size:base≤wr.heap.size
theorem oMoved_upto (n:Int) (hn0:-1000≤n) (hn1:n≤1000) (m:Nat) (hmm:m≤1000000):∀ (o:Lfc.Ord) (v:Value) (w:World),o.size≤m→o.mod 1000=true→OrdV w o v →
  Calls Tryz.prog 57 #[v,.int .i64 n] w fun e w'=>(∃v',e=.returned v'∧OrdVP (fun b=>w.heap.size≤b) w' (o.mv n) v')∧Below w.heap.size w w':=by
 induction m with
 | zero=>intro o v w h _ _;have:=o.size_pos;omega
 | succ m ih0 =>
  intro o v w hm hmod hv
  have ih:=ih0 (by omega)
  clear ih0
  obtain ⟨kd,ar,ts⟩:=o
  obtain ⟨A0,c0,rfl,hc,hA⟩:=hv.open_
  simp only [Lfc.Ord.size] at hm
  rw [Lfc.Ord.mod,Bool.and_eq_true,Bool.and_eq_true,decide_eq_true_eq,decide_eq_true_eq] at hmod
  obtain ⟨⟨ha0,ha1⟩,hms⟩:=hmod
  have hlen:=Lfc.Ord.sizes_len ts
  have IH:=zH ih
  have HMS:=zH (Lfc.mods_at 1000 ts hms)
  obtain ⟨i0,hi,hz0,hz1,hz2⟩:=ord_info
  obtain ⟨wb,hwb⟩:∃wb,w.alloc (.cells #[.int .i64 kd,.int .i64 ar,.slice A0 ts.length c0] 26)=wb:=⟨_,rfl⟩
  obtain ⟨wa,hwa⟩:∃wa,wb.alloc (.cells #[.int .i64 0,.int .i64 0,.slice none 0 0] 26)=wa:=⟨_,rfl⟩
  have bwb:=zG hwb
  have bba:=zG hwa
  have qb:=zQ hwb
  have qa:=zQ hwa
  have lb:=zL qb
  have la:=zL qa
  have qba:=(bba.block _ lb).trans qb
  have bwa:Below w.heap.size w wa:=bwb.trans (bba.mono (by omega))
  have HWA:=zH bwa
  have QB:=zH qba
  have QA:=zH qa
  have HA:=zH (hA.below bwa)
  clear ih hv hA bwb bba qa qb qba bwa hms
  by_cases hk1:kd=1
  ·subst hk1
   obtain ⟨wr1,hwr1⟩:∃wr1,wa.alloc (.cells #[.int .i64 1,.int .i64 0,.slice none 0 0] 26)=wr1:=⟨_,rfl⟩
   have b1:=zG hwr1
   have q1:=zQ hwr1
   have s1:wa.heap.size+1≤wr1.heap.size:=by rw [←hwr1];simp
   have HW1:=zH hwr1
   obtain ⟨wr0,hwr0⟩:∃wr0,wr1.setCell ⟨wa.heap.size,1,none⟩ (.int .i64 (ar+n))=wr0:=⟨_,rfl⟩
   have o0:Oth wa.heap.size wr1 wr0:=by rw [←hwr0];exact Oth.set _ _
   have b0:Below wa.heap.size wa wr0:=Oth.below b1 o0 (by omega) (by omega)
   have q0:wr0.heap[wa.heap.size]?=some (.cells #[.int .i64 1,.int .i64 (ar+n),.slice none 0 0] 26 (0,0)):=by rw [←hwr0];simp [World.setCell,Array.getElem?_modify,q1]
   have s0:wa.heap.size+1≤wr0.heap.size:=Nat.le_trans s1 o0.size
   have HW0:=zH hwr0
   have I0:Hid (MvI wa w.heap.size wa.heap.size (wa.heap.size+1) 1 (ar+n) (Lfc.Ord.mvs n (ts.take 0)) none 0 [] wr0):=zH ⟨q0,⟨by simp [Lfc.Ord.mvs],.inl ⟨rfl,rfl⟩⟩,by rw [List.take_zero,Lfc.Ord.mvs,ORow],b0,s0⟩
   have Y1:=zH (show wr1.heap[w.heap.size]?=some (.cells #[.int .i64 1,.int .i64 ar,.slice A0 ts.length c0] 26 (0,0)) from (b1.block _ (by omega)).trans QB.out)
   have Q1:=zH q1
   obtain ⟨y0,y1,y2⟩:=cells3o QB.out
   clear b0 q0 s0 hwr0 b1 q1 s1 hwr1 o0
   have hwn:IntKind.i64.wrap (ar+n)=ar+n:=IntWalk.i64_in _ (by omega)
   go_enter Tryz.func57,Tryz.ntmps57
   go_upto_region 2 with fail
   rw [HW1.out]
   clear HW1 y0 y1 y2 hwa hwb
   obtain ⟨y0,y1,y2⟩:=cells3o Y1.out
   have z1:=zC Q1.out 1
   have f1:=zF Q1.out 1
   go_upto_region 4 with fail
   rw [HW0.out]
   clear HW0 y0 y1 y2 z1 f1 Y1 Q1
   obtain ⟨y0,y1,y2⟩:=cells3o ((I0.out.bel.block _ (by omega)).trans QB.out)
   go_wp2_with fail
   go_loopw [22] (fun i wr=>∃ (k:Nat) (A:Option Addr) (c:Nat) (xs:List Value),k≤ts.length∧i=.int .i64 k∧Hid (MvI wa w.heap.size wa.heap.size (wa.heap.size+1) 1 (ar+n) (Lfc.Ord.mvs n (ts.take k)) A c xs wr)) (fun i _=>ts.length-(intOf i).toNat)
   case atStart=>exact ⟨0,none,0,[],Nat.zero_le _,rfl,I0⟩
   case round =>
    clear y0 y1 y2 I0
    obtain ⟨k,A,c,xs,hk,rfl,HI⟩:=hrel
    have hol:(Lfc.Ord.mvs n (ts.take k)).length=k:=by rw [Lfc.mvs_length,List.length_take];omega
    have hsw:=HI.out.bel.size
    have hsb:=HI.out.size
    obtain ⟨y0,y1,y2⟩:=cells3o ((HI.out.bel.block _ (by omega)).trans QB.out)
    by_cases hlt:k<ts.length
    ·obtain ⟨b,o,k1,a1,us,B,c1,rfl,hb,ht,d0,d1,d2,hcu,hB,hT⟩:=(HA.out.below HI.out.bel).at_ hlt
     have hmem:=Lfc.Ord.sizes_mem ts ts[k] (List.getElem_mem _)
     have HMK:=zH (HMS.out k hlt)
     have HTK:=zH (Lfc.mvs_take n ts k hlt)
     have hi0:(0:Int)≤(k:Int):=Int.natCast_nonneg _
     have hi1:(k:Int)<(ts.length:Int):=by omega
     clear hB ht
     obtain ⟨wx,hwx⟩:∃wx,wr.alloc (.cells #[.int .i64 k1,.int .i64 a1,.slice B us.length c1] 26)=wx:=⟨_,rfl⟩
     have bx:=zG hwx
     have qx:=zQ hwx
     have hsx:=bx.size
     have HWX:=zH hwx
     have IX:=zH (show MvI wa w.heap.size wa.heap.size (wa.heap.size+1) 1 (ar+n) (Lfc.Ord.mvs n (ts.take k)) A c xs wx from ⟨(bx.block _ (zL HI.out.r)).trans HI.out.r,by rw [←hwx];exact HI.out.own.alloc _,HI.out.row.keep (fun b _ hlt=>bx.block b hlt) bx.size (fun _ _ h=>h),HI.out.bel.trans (bx.mono hsw),Nat.le_trans hsb bx.size⟩)
     have hT2:=zH (hT.below (bx.trans ((zB _ _).drew.mono bx.size)))
     obtain ⟨x0,x1,x2⟩:=cells3o qx
     clear hwx qx hT bx
     obtain ⟨os,hos⟩:∃os,Lfc.Ord.mvs n (ts.take k)=os:=⟨_,rfl⟩
     rw [hos] at IX HTK hol
     have HR:=zH IX.out.r
     have HOWN:=zH IX.out.own
     have HROW:=zH IX.out.row
     have HOX:Hid (Oth w.heap.size wa wx):=zH (Oth.of_below IX.out.bel)
     have HBX:=zH IX.out.bel
     have hbx:=IX.out.size
     rw [hol] at HR HOWN HROW
     have yx:wx.cell? ⟨wa.heap.size,2,none⟩=some (.slice A k c):=zC HR.out 2
     have hlm:k+1≤maxLen:=by unfold maxLen;omega
     have hl40:(k+1)*40≤140737488355328:=by omega
     have hrb:wa.heap.size<wa.heap.size+1:=Nat.lt_succ_self _
     have hTr:w.heap.size<wa.heap.size:=by omega
     have hTow:(Value.slice A k c).ownBlock=some w.heap.size→False:=fun e=>by have:=(HOWN.out.lt _ e).1;omega
     have hlx:=zL HR.out
     go_upto_region 7 with fail
     rw [HWX.out]
     clear hos HI IX
     go_region_law (first
   | (go_simp;go_at_call 57;refine (IH.out ts[k] _ wx.drew (by omega) HMK.out hT2.out).mono ?_;rintro e w9 ⟨⟨v9,rfl,hv9⟩,b9⟩;obtain ⟨k9,a9,ts9,ht9⟩:=ord_node (ts[k].mv n);rw [ht9] at hv9;obtain ⟨A9,c9,rfl,hp9⟩:=hv9.open_;have o9:Oth w.heap.size wx.drew w9:=Oth.of_below b9;have q9:=(b9.block _ hlx).trans HR.out;have y9:w9.cell? ⟨wa.heap.size,2,none⟩=some (.slice A k c):=zC q9 2;have y9a:∀o,(w9.alloc o).cell? ⟨wa.heap.size,2,none⟩=some (.slice A k c):=fun o=>zC ((zA _ _ _ (zL q9)).trans q9) 2;have hown9:=HOWN.out.drew.kept o9 (Or.inr hTow);have hs9':wa.heap.size+1≤w9.heap.size:=Nat.le_trans hbx b9.size)
   | (refine step_append_own_at _ (by rfl) _ _ 24 (by rfl) (wa.heap.size+1) 26 i0 (.agg #[.int .i64 0,.int .i64 0,.slice none 0 0]) 3 40 Tryz.underlying24 hi hz0 hz1 hz2 rfl (by decide) _ _ _ (by rfl) (hown9.alloc _) ⟨w9.heap.size,0,none⟩ 1 1 [.int .i64 k9,.int .i64 a9,.slice A9 ts9.length c9] (by rfl) (by rfl) (fun j u h=>ocells_new w9 _ rfl [.int .i64 k9,.int .i64 a9,.slice A9 ts9.length c9] _ j u h) oneCell3 hlm hl40 (oalloc_le hs9') ?_;intro v' w10 hown10 hg10 hloc10;obtain ⟨A10,c10,rfl⟩:=oform hown10;obtain ⟨hr10,hfin⟩:=ord_final (ts:=os) hrb hTr hbx (zN _) HR.out (by rw [hol];exact HOWN.out) HROW.out HOX.out o9 hp9 (by rw [hol];exact hown10) hg10 (oalloc_loc hloc10);have y10:=(zC hr10 2:w10.cell? ⟨wa.heap.size,2,none⟩=some (.slice A k c));have f10:=zF hr10 2))
     all_goals
      obtain ⟨f1,f2,f3,f4,f5,f6,f7⟩:=hfin
      have HNX:Hid (MvI wa w.heap.size wa.heap.size (wa.heap.size+1) 1 (ar+n) (Lfc.Ord.mvs n (ts.take (k+1))) A10 c10 (xs++[.int .i64 k9,.int .i64 a9,.slice A9 ts9.length c9]) (w10.setCell ⟨wa.heap.size,2,none⟩ (.slice A10 (k+1) c10))):=zH (by
       rw [HTK.out,ht9]
       have el:(os++[Lfc.Ord.node k9 a9 ts9]).length=k+1:=by rw [List.length_append,hol];rfl
       refine ⟨by rw [el];exact f1,by rw [el];rw [el] at f2;exact f2,by rw [el];exact f3,below_of_oth f4 ?_,f5⟩
       rw [f7,b9.block _ (by show w.heap.size<wx.heap.size;omega)]
       exact HBX.out.block _ (by omega))
      clear f1 f2 f3 f4 f5 f6 f7 hp9 b9 o9 hown9 hown10 hg10 ht9
      go_wp2_with fail
      go_roundw
      case rel=>exact ⟨k+1,A10,c10,_,by omega,by go_num,HNX⟩
      case measure=>simp [intOf];omega
    obtain rfl:k=ts.length:=by omega
    rw [List.take_length] at HI hol
    have hpt:=ord_parts (lo:=w.heap.size) (by omega) HI.out.own HI.out.row
    rw [hol] at hpt
    have HR:=zH HI.out.r
    rw [hol] at HR
    obtain ⟨u0,u1,u2⟩:=cells3o HR.out
    have hq4:=(HI.out.bel.block _ la).trans QA.out
    obtain ⟨s1,s2,s3,g1,g2,g3,⟨p0,p1,p2⟩,⟨f0,f1,f2⟩,hq,hot⟩:=oput3 hq4 (.int .i64 1) (.int .i64 (ar+n)) (.slice A ts.length c)
    have HQ:=zH hq
    have HBF:Hid (Below w.heap.size w s3):=zH (Oth.below (HWA.out.trans (HI.out.bel.mono HWA.out.size)) hot (by omega) (by omega))
    have HPT:Hid (OrdsAtP (fun b=>w.heap.size≤b) s3 A (Lfc.Ord.mvs n ts)):=zH (by
     have hpt2:=ord_parts (lo:=wa.heap.size) (by omega) HI.out.own HI.out.row
     refine hpt2.1.keep (fun b hb hlt=>?_) hot.size (fun b _ hb=>by have hb:wa.heap.size≤b:=hb;show w.heap.size≤b;omega)
     have hb:wa.heap.size≤b:=hb
     exact hot.block b hlt (fun e=>by have:=zO e;omega))
    have HCC:=zH hpt.2
    have HLL:Hid ((Lfc.Ord.mvs n ts).length=ts.length):=zH (Lfc.mvs_length n ts)
    clear hq hot hpt HI hq4
    go_wp2_with fail
    refine bodyPost_ret (results_ord rfl _ _ _ _ _ _ rfl HQ.out) rfl ?_
    refine ⟨⟨_,rfl,?_⟩,HBF.out⟩
    have e:(Lfc.Ord.node 1 ar ts).mv n=.node 1 (ar+n) (Lfc.Ord.mvs n ts):=by rw [Lfc.Ord.mv,if_pos rfl]
    rw [e]
    have h:=OrdVP.mk (k:=1) (a:=(ar+n)) (A:=A) (c:=c) (by rw [HLL.out];exact HCC.out) HPT.out
    rw [HLL.out] at h
    exact h
  have hk1f:(kd == 1)=false:=by simpa using hk1
  obtain ⟨wr1,hwr1⟩:∃wr1,wa.alloc (.cells #[.int .i64 kd,.int .i64 0,.slice none 0 0] 26)=wr1:=⟨_,rfl⟩
  have b1:=zG hwr1
  have q1:=zQ hwr1
  have s1:wa.heap.size+1≤wr1.heap.size:=by rw [←hwr1];simp
  have HW1:=zH hwr1
  obtain ⟨wr0,hwr0⟩:∃wr0,wr1=wr0:=⟨_,rfl⟩
  have b0:Below wa.heap.size wa wr0:=hwr0 ▸ b1
  have q0:wr0.heap[wa.heap.size]?=some (.cells #[.int .i64 kd,.int .i64 0,.slice none 0 0] 26 (0,0)):=hwr0 ▸ q1
  have s0:wa.heap.size+1≤wr0.heap.size:=hwr0 ▸ s1
  have I0:Hid (MvI wa w.heap.size wa.heap.size (wa.heap.size+1) kd 0 (Lfc.Ord.mvs n (ts.take 0)) none 0 [] wr0):=zH ⟨q0,⟨by simp [Lfc.Ord.mvs],.inl ⟨rfl,rfl⟩⟩,by rw [List.take_zero,Lfc.Ord.mvs,ORow],b0,s0⟩
  have Y1:=zH (show wr1.heap[w.heap.size]?=some (.cells #[.int .i64 kd,.int .i64 ar,.slice A0 ts.length c0] 26 (0,0)) from (b1.block _ (by omega)).trans QB.out)
  have Q1:=zH q1
  obtain ⟨y0,y1,y2⟩:=cells3o QB.out
  have HE:=zH hwr0
  clear b0 q0 s0 hwr0 b1 q1 s1 hwr1
  go_enter Tryz.func57,Tryz.ntmps57
  go_upto_region 2 with fail
  rw [HW1.out]
  clear HW1 y0 y1 y2 hwa hwb
  obtain ⟨y0,y1,y2⟩:=cells3o Y1.out
  go_upto_region 4 with fail
  clear Y1 Q1
  rw [HE.out] at y0 y1 y2 ⊢
  clear HE
  go_wp2_with fail
  go_loopw [22] (fun i wr=>∃ (k:Nat) (A:Option Addr) (c:Nat) (xs:List Value),k≤ts.length∧i=.int .i64 k∧Hid (MvI wa w.heap.size wa.heap.size (wa.heap.size+1) kd 0 (Lfc.Ord.mvs n (ts.take k)) A c xs wr)) (fun i _=>ts.length-(intOf i).toNat)
  case atStart=>exact ⟨0,none,0,[],Nat.zero_le _,rfl,I0⟩
  case round =>
   clear y0 y1 y2 I0
   obtain ⟨k,A,c,xs,hk,rfl,HI⟩:=hrel
   have hol:(Lfc.Ord.mvs n (ts.take k)).length=k:=by rw [Lfc.mvs_length,List.length_take];omega
   have hsw:=HI.out.bel.size
   have hsb:=HI.out.size
   obtain ⟨y0,y1,y2⟩:=cells3o ((HI.out.bel.block _ (by omega)).trans QB.out)
   by_cases hlt:k<ts.length
   ·obtain ⟨b,o,k1,a1,us,B,c1,rfl,hb,ht,d0,d1,d2,hcu,hB,hT⟩:=(HA.out.below HI.out.bel).at_ hlt
    have hmem:=Lfc.Ord.sizes_mem ts ts[k] (List.getElem_mem _)
    have HMK:=zH (HMS.out k hlt)
    have HTK:=zH (Lfc.mvs_take n ts k hlt)
    have hi0:(0:Int)≤(k:Int):=Int.natCast_nonneg _
    have hi1:(k:Int)<(ts.length:Int):=by omega
    clear hB ht
    obtain ⟨wx,hwx⟩:∃wx,wr.alloc (.cells #[.int .i64 k1,.int .i64 a1,.slice B us.length c1] 26)=wx:=⟨_,rfl⟩
    have bx:=zG hwx
    have qx:=zQ hwx
    have hsx:=bx.size
    have HWX:=zH hwx
    have IX:=zH (show MvI wa w.heap.size wa.heap.size (wa.heap.size+1) kd 0 (Lfc.Ord.mvs n (ts.take k)) A c xs wx from ⟨(bx.block _ (zL HI.out.r)).trans HI.out.r,by rw [←hwx];exact HI.out.own.alloc _,HI.out.row.keep (fun b _ hlt=>bx.block b hlt) bx.size (fun _ _ h=>h),HI.out.bel.trans (bx.mono hsw),Nat.le_trans hsb bx.size⟩)
    have hT2:=zH (hT.below (bx.trans ((zB _ _).drew.mono bx.size)))
    obtain ⟨x0,x1,x2⟩:=cells3o qx
    clear hwx qx hT bx
    obtain ⟨os,hos⟩:∃os,Lfc.Ord.mvs n (ts.take k)=os:=⟨_,rfl⟩
    rw [hos] at IX HTK hol
    have HR:=zH IX.out.r
    have HOWN:=zH IX.out.own
    have HROW:=zH IX.out.row
    have HOX:Hid (Oth w.heap.size wa wx):=zH (Oth.of_below IX.out.bel)
    have HBX:=zH IX.out.bel
    have hbx:=IX.out.size
    rw [hol] at HR HOWN HROW
    have yx:wx.cell? ⟨wa.heap.size,2,none⟩=some (.slice A k c):=zC HR.out 2
    have hlm:k+1≤maxLen:=by unfold maxLen;omega
    have hl40:(k+1)*40≤140737488355328:=by omega
    have hrb:wa.heap.size<wa.heap.size+1:=Nat.lt_succ_self _
    have hTr:w.heap.size<wa.heap.size:=by omega
    have hTow:(Value.slice A k c).ownBlock=some w.heap.size→False:=fun e=>by have:=(HOWN.out.lt _ e).1;omega
    have hlx:=zL HR.out
    go_upto_region 7 with fail
    rw [HWX.out]
    clear hos HI IX
    go_region_law (first
  | (go_simp;go_at_call 57;refine (IH.out ts[k] _ wx.drew (by omega) HMK.out hT2.out).mono ?_;rintro e w9 ⟨⟨v9,rfl,hv9⟩,b9⟩;obtain ⟨k9,a9,ts9,ht9⟩:=ord_node (ts[k].mv n);rw [ht9] at hv9;obtain ⟨A9,c9,rfl,hp9⟩:=hv9.open_;have o9:Oth w.heap.size wx.drew w9:=Oth.of_below b9;have q9:=(b9.block _ hlx).trans HR.out;have y9:w9.cell? ⟨wa.heap.size,2,none⟩=some (.slice A k c):=zC q9 2;have y9a:∀o,(w9.alloc o).cell? ⟨wa.heap.size,2,none⟩=some (.slice A k c):=fun o=>zC ((zA _ _ _ (zL q9)).trans q9) 2;have hown9:=HOWN.out.drew.kept o9 (Or.inr hTow);have hs9':wa.heap.size+1≤w9.heap.size:=Nat.le_trans hbx b9.size)
  | (refine step_append_own_at _ (by rfl) _ _ 24 (by rfl) (wa.heap.size+1) 26 i0 (.agg #[.int .i64 0,.int .i64 0,.slice none 0 0]) 3 40 Tryz.underlying24 hi hz0 hz1 hz2 rfl (by decide) _ _ _ (by rfl) (hown9.alloc _) ⟨w9.heap.size,0,none⟩ 1 1 [.int .i64 k9,.int .i64 a9,.slice A9 ts9.length c9] (by rfl) (by rfl) (fun j u h=>ocells_new w9 _ rfl [.int .i64 k9,.int .i64 a9,.slice A9 ts9.length c9] _ j u h) oneCell3 hlm hl40 (oalloc_le hs9') ?_;intro v' w10 hown10 hg10 hloc10;obtain ⟨A10,c10,rfl⟩:=oform hown10;obtain ⟨hr10,hfin⟩:=ord_final (ts:=os) hrb hTr hbx (zN _) HR.out (by rw [hol];exact HOWN.out) HROW.out HOX.out o9 hp9 (by rw [hol];exact hown10) hg10 (oalloc_loc hloc10);have y10:=(zC hr10 2:w10.cell? ⟨wa.heap.size,2,none⟩=some (.slice A k c));have f10:=zF hr10 2))
    all_goals
     obtain ⟨f1,f2,f3,f4,f5,f6,f7⟩:=hfin
     have HNX:Hid (MvI wa w.heap.size wa.heap.size (wa.heap.size+1) kd 0 (Lfc.Ord.mvs n (ts.take (k+1))) A10 c10 (xs++[.int .i64 k9,.int .i64 a9,.slice A9 ts9.length c9]) (w10.setCell ⟨wa.heap.size,2,none⟩ (.slice A10 (k+1) c10))):=zH (by
      rw [HTK.out,ht9]
      have el:(os++[Lfc.Ord.node k9 a9 ts9]).length=k+1:=by rw [List.length_append,hol];rfl
      refine ⟨by rw [el];exact f1,by rw [el];rw [el] at f2;exact f2,by rw [el];exact f3,below_of_oth f4 ?_,f5⟩
      rw [f7,b9.block _ (by show w.heap.size<wx.heap.size;omega)]
      exact HBX.out.block _ (by omega))
     clear f1 f2 f3 f4 f5 f6 f7 hp9 b9 o9 hown9 hown10 hg10 ht9
     go_wp2_with fail
     go_roundw
     case rel=>exact ⟨k+1,A10,c10,_,by omega,by go_num,HNX⟩
     case measure=>simp [intOf];omega
   obtain rfl:k=ts.length:=by omega
   rw [List.take_length] at HI hol
   have hpt:=ord_parts (lo:=w.heap.size) (by omega) HI.out.own HI.out.row
   rw [hol] at hpt
   have HR:=zH HI.out.r
   rw [hol] at HR
   obtain ⟨u0,u1,u2⟩:=cells3o HR.out
   have hq4:=(HI.out.bel.block _ la).trans QA.out
   obtain ⟨s1,s2,s3,g1,g2,g3,⟨p0,p1,p2⟩,⟨f0,f1,f2⟩,hq,hot⟩:=oput3 hq4 (.int .i64 kd) (.int .i64 0) (.slice A ts.length c)
   have HQ:=zH hq
   have HBF:Hid (Below w.heap.size w s3):=zH (Oth.below (HWA.out.trans (HI.out.bel.mono HWA.out.size)) hot (by omega) (by omega))
   have HPT:Hid (OrdsAtP (fun b=>w.heap.size≤b) s3 A (Lfc.Ord.mvs n ts)):=zH (by
    have hpt2:=ord_parts (lo:=wa.heap.size) (by omega) HI.out.own HI.out.row
    refine hpt2.1.keep (fun b hb hlt=>?_) hot.size (fun b _ hb=>by have hb:wa.heap.size≤b:=hb;show w.heap.size≤b;omega)
    have hb:wa.heap.size≤b:=hb
    exact hot.block b hlt (fun e=>by have:=zO e;omega))
   have HCC:=zH hpt.2
   have HLL:Hid ((Lfc.Ord.mvs n ts).length=ts.length):=zH (Lfc.mvs_length n ts)
   clear hq hot hpt HI hq4
   go_wp2_with fail
   refine bodyPost_ret (results_ord rfl _ _ _ _ _ _ rfl HQ.out) rfl ?_
   refine ⟨⟨_,rfl,?_⟩,HBF.out⟩
   have e:(Lfc.Ord.node kd ar ts).mv n=.node kd 0 (Lfc.Ord.mvs n ts):=by rw [Lfc.Ord.mv,if_neg hk1]
   rw [e]
   have h:=OrdVP.mk (k:=kd) (a:=0) (A:=A) (c:=c) (by rw [HLL.out];exact HCC.out) HPT.out
   rw [HLL.out] at h
   exact h
end Go.Proofs.YtadjpadieljjlaaGreat
namespace Lfc
def piCh:Nat→Raw
 | 0=>.node 1 [] 0 []
 | k+1=>.node 2 [] 0 [.node 4 [113] 0 [],piCh k]
end Lfc
namespace Go.Proofs.YtadjpadieljjlaaGreat
open Go.RowKit Go.Maps
attribute [local go_sem ↓] Go.wp_at_zero Go.wp_at_succ
theorem cells4t {W:World} {g:Nat} {v0 v1 v2 v3:Value} {t:TypeId} (h:W.heap[g]?=some (.cells #[v0,v1,v2,v3] t (0,0))):W.cell? ⟨g,0,none⟩=some v0∧W.cell? ⟨g,1,none⟩=some v1∧W.cell? ⟨g,2,none⟩=some v2∧W.cell? ⟨g,3,none⟩=some v3 :=
 ⟨zC h 0,zC h 1,zC h 2,zC h 3⟩
theorem tput4 {W:World} {R:Nat} {a0 a1 a2 a3:Value} {t:TypeId} (h:W.heap[R]?=some (.cells #[a0,a1,a2,a3] t (0,0))) (v0 v1 v2 v3:Value):∃s1 s2 s3 s4,W.setCell ⟨R,0,none⟩ v0=s1∧s1.setCell ⟨R,1,none⟩ v1=s2∧s2.setCell ⟨R,2,none⟩ v2=s3∧s3.setCell ⟨R,3,none⟩ v3=s4 ∧
  (W.cell? ⟨R,0,none⟩=some a0∧s1.cell? ⟨R,1,none⟩=some a1∧s2.cell? ⟨R,2,none⟩=some a2∧s3.cell? ⟨R,3,none⟩=some a3) ∧
  (W.frozen? ⟨R,0,none⟩=false∧s1.frozen? ⟨R,1,none⟩=false∧s2.frozen? ⟨R,2,none⟩=false∧s3.frozen? ⟨R,3,none⟩=false) ∧
  s4.heap[R]?=some (.cells #[v0,v1,v2,v3] t (0,0))∧Oth R W s4:=by
 obtain ⟨s1,h1⟩:∃s1,W.setCell ⟨R,0,none⟩ v0=s1:=⟨_,rfl⟩
 obtain ⟨s2,h2⟩:∃s2,s1.setCell ⟨R,1,none⟩ v1=s2:=⟨_,rfl⟩
 obtain ⟨s3,h3⟩:∃s3,s2.setCell ⟨R,2,none⟩ v2=s3:=⟨_,rfl⟩
 obtain ⟨s4,h4⟩:∃s4,s3.setCell ⟨R,3,none⟩ v3=s4:=⟨_,rfl⟩
 have q1:s1.heap[R]?=some (.cells #[v0,a1,a2,a3] t (0,0)):=by rw [←h1];simp [World.setCell,Array.getElem?_modify,h]
 have q2:s2.heap[R]?=some (.cells #[v0,v1,a2,a3] t (0,0)):=by rw [←h2];simp [World.setCell,Array.getElem?_modify,q1]
 have q3:s3.heap[R]?=some (.cells #[v0,v1,v2,a3] t (0,0)):=by rw [←h3];simp [World.setCell,Array.getElem?_modify,q2]
 have q4:s4.heap[R]?=some (.cells #[v0,v1,v2,v3] t (0,0)):=by rw [←h4];simp [World.setCell,Array.getElem?_modify,q3]
 refine ⟨s1,s2,s3,s4,h1,h2,h3,h4,⟨zC h 0,zC q1 1,zC q2 2,zC q3 3⟩,⟨zF h 0,zF q1 1,zF q2 2,zF q3 3⟩,q4,?_⟩
 rw [←h4,←h3,←h2,←h1]
 exact (((Oth.set W v0).trans (Oth.set _ v1)).trans (Oth.set _ v2)).trans (Oth.set _ v3)
theorem TreeV.parts {w:World} {k p:Int} {n:List UInt8} {ts:List Lfc.Raw} {A:Option Addr} {c:Nat} (h:TreeV w (.node k n p ts) (.agg #[.int .i64 k,S n,.int .i64 p,.slice A ts.length c])):TreesAt w A ts∧ts.length≤c:=by
 obtain ⟨v0,v1,v2,v3,e,h⟩:=h
 simp only [Value.agg.injEq,Array.mk.injEq,List.cons.injEq,and_true] at e
 obtain ⟨rfl,rfl,rfl,rfl⟩:=e
 rw [TreeC] at h
 obtain ⟨_,_,_,_,A',c',e,hc,h⟩:=h
 simp only [Value.slice.injEq,true_and] at e
 obtain ⟨rfl,rfl⟩:=e
 exact ⟨h,hc⟩
theorem term_size:(Tryz.prog.info? 51).map (·.size)=some 4:=by kernel_rfl
theorem results_term2 {fn:Func} {p u:Tmp} (h:fn.results=#[.cell p 51,.tmp u]) (tmps:Array Value) (w:World) (g:Nat) (v0 v1 v2 v3:Value) (hp:tmps.getD p undef=.pointer (some ⟨g,0,none⟩)) (hg:w.heap[g]?=some (.cells #[v0,v1,v2,v3] 51 (0,0))) :
  (results fn tmps).run Tryz.prog w=.ok (.tuple #[.agg #[v0,v1,v2,v3],tmps.getD u undef]) w:=by
 rw [results_cell_tmp h,hp]
 simp [asAddr,run_loadVar_row w g _ _ _ _ _ hg Tryz.underlying51 rfl term_size,Result.andThen]
theorem oRest_any (k:Nat) (hk:k≤1000) (v:Value) (w:World) (hv:TreeV w (Lfc.piCh k) v) :
  Calls Tryz.prog 86 #[v] w fun e w'=>(∃A c,e=.returned (.tuple #[.agg #[.int .i64 1,S [],.int .i64 0,.slice A 0 c],.int .i64 (k:Int)]))∧Below w.heap.size w w':=by
 obtain ⟨kd,n,p,ts,hT⟩:∃kd n p ts,Lfc.piCh k=.node kd n p ts:=by
  cases Lfc.piCh k with
  | node kd n p ts=>exact ⟨kd,n,p,ts,rfl⟩
 have hv':=hv
 rw [hT] at hv
 obtain ⟨A,c,rfl,hc,hA⟩:=hv.open_
 obtain ⟨w1,hw1⟩:∃w1,w.alloc (.cells #[.int .i64 kd,S n,.int .i64 p,.slice A ts.length c] 51)=w1:=⟨_,rfl⟩
 obtain ⟨w2,hw2⟩:∃w2,w1.alloc (.cells #[.int .i64 0,S [],.int .i64 0,.slice none 0 0] 51)=w2:=⟨_,rfl⟩
 have b1:=zG hw1
 have b2:=zG hw2
 have q1:=zQ hw1
 have q2:=zQ hw2
 have l1:=zL q1
 have q12:=(b2.block _ l1).trans q1
 have s1:=b1.size
 have b02:=b1.trans (b2.mono s1)
 have HI0:Hid (Lfc.piCh k=.node kd n p ts∧w2.heap[w.heap.size]?=some (.cells #[.int .i64 kd,S n,.int .i64 p,.slice A ts.length c] 51 (0,0))∧w2.heap[w1.heap.size]?=some (.cells #[.int .i64 0,S [],.int .i64 0,.slice none 0 0] 51 (0,0))∧TreeV w (Lfc.piCh k) (.agg #[.int .i64 kd,S n,.int .i64 p,.slice A ts.length c])∧Below w.heap.size w w2):=zH ⟨hT,q12,q2,hv',b02⟩
 clear hT hA hv hv' q1 q2 q12 b1 b2 b02
 go_enter Tryz.func86,Tryz.ntmps86
 go_wp2_with fail
 go_loopw [4] (fun i wr=>∃ (j m:Nat) (kd:Int) (n:List UInt8) (p:Int) (ts:List Lfc.Raw) (A:Option Addr) (c:Nat),m+j=k∧i=.int .i64 m∧Hid (Lfc.piCh j=.node kd n p ts∧wr.heap[w.heap.size]?=some (.cells #[.int .i64 kd,S n,.int .i64 p,.slice A ts.length c] 51 (0,0))∧wr.heap[w1.heap.size]?=some (.cells #[.int .i64 0,S [],.int .i64 0,.slice none 0 0] 51 (0,0))∧TreeV w (Lfc.piCh j) (.agg #[.int .i64 kd,S n,.int .i64 p,.slice A ts.length c])∧Below w.heap.size w wr)) (fun i _=>k-(intOf i).toNat)
 case atStart=>exact ⟨k,0,kd,n,p,ts,A,c,by omega,rfl,HI0⟩
 clear HI0 hc hw1 hw2
 obtain ⟨j,m,kd',n',p',ts',A2,c2,hm,rfl,HI⟩:=hrel
 obtain ⟨hT,hq,hr,hv,hb⟩:=HI.out
 obtain ⟨y0,y1,y2,y3⟩:=cells4t hq
 cases j with
 | zero =>
  obtain rfl:m=k:=by omega
  rw [Lfc.piCh] at hT
  obtain ⟨rfl,rfl,rfl,rfl⟩:=Lfc.Raw.node.inj hT
  obtain ⟨s1,s2,s3,s4,g1,g2,g3,g4,⟨z0,z1,z2,z3⟩,⟨f0,f1,f2,f3⟩,hq2,ho⟩:=tput4 hr (.int .i64 1) (S []) (.int .i64 0) (.slice A2 0 c2)
  have HQ:=zH hq2
  have HB:Hid (Below w.heap.size w s4):=zH (Oth.below hb ho (by omega) (by have:=hb.size;omega))
  clear HI hT hq hr hv hb hq2 ho
  go_wp2_with fail
  refine bodyPost_ret (results_term2 rfl _ _ _ _ _ _ _ rfl HQ.out) rfl ?_
  exact ⟨⟨_,_,rfl⟩,HB.out⟩
 | succ j =>
  have hcj:TreesAt w A2 ts'∧ts'.length≤c2:=by
   have hv2:=hv
   rw [hT] at hv2
   exact hv2.parts
  rw [Lfc.piCh] at hT
  obtain ⟨rfl,rfl,rfl,rfl⟩:=Lfc.Raw.node.inj hT
  obtain ⟨b,o,k1,n1,p1,us,B,c1,rfl,hbl,ht,d0,d1,d2,d3,hcu,hB,hT2⟩:=hcj.1.at_ (i:=1) (by simp)
  have hbc:∀o,wr.cell? ⟨b,o,none⟩=w.cell? ⟨b,o,none⟩:=fun o=>hb.cell (p:=⟨b,o,none⟩) hbl
  have x0:wr.cell? ⟨b,o+4,none⟩=some (.int .i64 k1):=by rw [hbc];simpa using d0
  have x1:wr.cell? ⟨b,o+4+1,none⟩=some (S n1):=by rw [hbc];simpa using d1
  have x2:wr.cell? ⟨b,o+4+2,none⟩=some (.int .i64 p1):=by rw [hbc];simpa using d2
  have x3:wr.cell? ⟨b,o+4+3,none⟩=some (.slice B us.length c1):=by rw [hbc];simpa using d3
  obtain ⟨s1,s2,s3,s4,g1,g2,g3,g4,⟨z0,z1,z2,z3⟩,⟨f0,f1,f2,f3⟩,hq2,ho⟩:=tput4 hq (.int .i64 k1) (S n1) (.int .i64 p1) (.slice B us.length c1)
  have HN:Hid (Lfc.piCh j=.node k1 n1 p1 us∧s4.heap[w.heap.size]?=some (.cells #[.int .i64 k1,S n1,.int .i64 p1,.slice B us.length c1] 51 (0,0))∧s4.heap[w1.heap.size]?=some (.cells #[.int .i64 0,S [],.int .i64 0,.slice none 0 0] 51 (0,0))∧TreeV w (Lfc.piCh j) (.agg #[.int .i64 k1,S n1,.int .i64 p1,.slice B us.length c1])∧Below w.heap.size w s4) :=
   zH ⟨by simpa using ht,hq2,(ho.block _ (zL hr) (fun e=>by have:=zO e;omega)).trans hr,by simpa using hT2,Oth.below hb ho (by omega) (by have:=hb.size;omega)⟩
  clear HI hT hq hr hv hb hq2 ho hcj d0 d1 d2 d3 ht hB hT2 hbc
  have hw3:IntKind.i64.wrap ((m:Int)+1)=(m:Int)+1:=IntWalk.i64_in _ (by omega)
  go_wp2_with fail
  go_roundw
  case rel=>exact ⟨j,m+1,k1,n1,p1,us,B,c1,by omega,by go_num,HN⟩
  case measure=>simp [intOf];omega
theorem oParams_any (k:Nat) (hk:k≤1000) (v:Value) (w:World) (hv:TreeV w (Lfc.piCh k) v) :
  Calls Tryz.prog 55 #[v] w fun e w'=>e=.returned (.int .i64 (k:Int))∧Below w.heap.size w w':=by
 obtain ⟨kd,n,p,ts,hT⟩:∃kd n p ts,Lfc.piCh k=.node kd n p ts:=by
  cases Lfc.piCh k with
  | node kd n p ts=>exact ⟨kd,n,p,ts,rfl⟩
 have hv':=hv
 rw [hT] at hv
 obtain ⟨A,c,rfl,hc,hA⟩:=hv.open_
 obtain ⟨w1,hw1⟩:∃w1,w.alloc (.cells #[.int .i64 kd,S n,.int .i64 p,.slice A ts.length c] 51)=w1:=⟨_,rfl⟩
 have b1:=zG hw1
 have q1:=zQ hw1
 have s1:=b1.size
 obtain ⟨y0,y1,y2,y3⟩:=cells4t q1
 have C:=zH (oRest_any k hk _ w1 (hv'.below b1))
 have HB:=zH b1
 clear hT hA hv hv' q1 b1 hc
 go_enter Tryz.func55,Tryz.ntmps55
 go_wp2_with fail
 refine C.out.mono ?_
 rintro e w2 ⟨⟨A9,c9,rfl⟩,hb2⟩
 go_wp2_with fail
 go_ret
 exact ⟨rfl,(HB.out.trans (hb2.mono s1)).alloc (Nat.le_trans s1 hb2.size) _⟩
end Go.Proofs.YtadjpadieljjlaaGreat
namespace Go.Proofs.YtadjpadieljjlaaGreat
open Go.RowKit
theorem enters_st:∀args w,(callFunc 72 args).run Tryz.prog w=.ok (.enter 72 args) w:=enters_of Tryz.func72 (by kernel_rfl) rfl
def ints (tv:List Int):List Value:=tv.map fun z=>.int .i64 z
structure StS (w0:World) (ks:List Int) (A0:Option Addr) (c0 cr B1 B2 B3 B4 G:Nat) (W:World) (tv:List Int):Prop where
 below:Below w0.heap.size w0 W
 b1:W.heap[B1]?=some (.cells #[.int .i64 (cr:Int)] 3 (0,0))
 b2:W.heap[B2]?=some (.cells #[.slice A0 ks.length c0] 22 (0,0))
 b3:W.heap[B3]?=some (.cells #[.slice (some ⟨G,0,none⟩) cr cr] 22 (0,0))
 b4:W.heap[B4]?=some (.cells #[.func (.func 72) #[] #[.pointer (some ⟨B1,0,none⟩),.pointer (some ⟨B2,0,none⟩),.pointer (some ⟨B3,0,none⟩),.pointer (some ⟨B4,0,none⟩)]] 129 (0,0))
 g:W.heap[G]?=some (.cells (ints tv).toArray 3 (0,0))
 len:tv.length=cr
 n:w0.heap.size≤G∧B1≠G∧B2≠G∧B3≠G∧B4≠G
theorem StS.wide {w0:World} {ks:List Int} {A0:Option Addr} {c0 cr B1 B2 B3 B4 G:Nat} {W W':World} {tv:List Int} (h:StS w0 ks A0 c0 cr B1 B2 B3 B4 G W tv) (hb:Below W.heap.size W W'):StS w0 ks A0 c0 cr B1 B2 B3 B4 G W' tv :=
 ⟨h.below.trans (hb.mono h.below.size),(hb.block _ (zL h.b1)).trans h.b1,(hb.block _ (zL h.b2)).trans h.b2,(hb.block _ (zL h.b3)).trans h.b3,(hb.block _ (zL h.b4)).trans h.b4,(hb.block _ (zL h.g)).trans h.g,h.len,h.n⟩
theorem StS.set {w0:World} {ks:List Int} {A0:Option Addr} {c0 cr B1 B2 B3 B4 G:Nat} {W:World} {tv:List Int} (h:StS w0 ks A0 c0 cr B1 B2 B3 B4 G W tv) (q:Nat) (z:Int):StS w0 ks A0 c0 cr B1 B2 B3 B4 G (W.setCell ⟨G,q,none⟩ (.int .i64 z)) (tv.set q z):=by
 have ho:Oth G W (W.setCell ⟨G,q,none⟩ (.int .i64 z)):=Oth.set _ _
 obtain ⟨n0,n1,n2,n3,n4⟩:=h.n
 refine ⟨Oth.below h.below ho n0 h.below.size,ho.heap h.b1 n1,ho.heap h.b2 n2,ho.heap h.b3 n3,ho.heap h.b4 n4,?_,by rw [List.length_set];exact h.len,h.n⟩
 simp [World.setCell,Array.getElem?_modify,h.g,ints,List.map_set]
theorem StS.cell {w0:World} {ks:List Int} {A0:Option Addr} {c0 cr B1 B2 B3 B4 G:Nat} {W:World} {tv:List Int} (h:StS w0 ks A0 c0 cr B1 B2 B3 B4 G W tv) {q:Nat} (hq:q<cr):W.cell? ⟨G,q,none⟩=some (.int .i64 (tv.getD q 0))∧W.frozen? ⟨G,q,none⟩=false:=by
 refine ⟨?_,zF h.g q⟩
 rw [zC h.g q]
 have:=h.len
 simp [ints,List.getD_eq_getElem?_getD,List.getElem?_eq_getElem (show q<tv.length by omega)]
def StAns (w0:World) (ks:List Int) (A0:Option Addr) (c0 cr B1 B2 B3 B4 G:Nat) (W:World) (r:Option (List Int)) (e:Ending) (w':World):Prop :=
 ((r=none∧e=.returned (.bool false))∨(∃tv',r=some tv'∧e=.returned (.bool true)∧StS w0 ks A0 c0 cr B1 B2 B3 B4 G w' tv'))∧Oth G W w'
theorem StAns.no {w0:World} {ks:List Int} {A0:Option Addr} {c0 cr B1 B2 B3 B4 G:Nat} {W:World} {r:Option (List Int)} {w':World} (h:r=none) (ho:Oth G W w'):StAns w0 ks A0 c0 cr B1 B2 B3 B4 G W r (.returned (.bool false)) w':=⟨.inl ⟨h,rfl⟩,ho⟩
theorem st_node (ks:List Int) (cr:Nat) (k k' p p' d:Int) (n n':List UInt8) (xs ys:List Lfc.Raw) (tv:List Int) :
  (Lfc.Raw.node k n p xs).st ks cr (.node k' n' p' ys) d tv=if k≠k'∨xs.length≠ys.length then none else match Lfc.stStep ks cr k n n' p p' d tv with | none=>none | some tv'=>Lfc.Raw.sts ks cr xs ys (if k=3 then d+1 else d) tv':=by rw [Lfc.Raw.st];rfl
theorem st_some {ks:List Int} {cr:Nat} {k p p' d d2:Int} {n n':List UInt8} {xs ys:List Lfc.Raw} {tv tv2:List Int} (hl:xs.length=ys.length) (h:Lfc.stStep ks cr k n n' p p' d tv=some tv2) (hd:d2=if k=3 then d+1 else d) :
  (Lfc.Raw.node k n p xs).st ks cr (.node k n' p' ys) d tv=Lfc.Raw.sts ks cr xs ys d2 tv2:=by
 rw [st_node,if_neg (by rintro (h | h);exact h rfl;exact h hl),h,hd]
theorem st_none {ks:List Int} {cr:Nat} {k p p' d:Int} {n n':List UInt8} {xs ys:List Lfc.Raw} {tv:List Int} (hl:xs.length=ys.length) (h:Lfc.stStep ks cr k n n' p p' d tv=none) :
  (Lfc.Raw.node k n p xs).st ks cr (.node k n' p' ys) d tv=none:=by
 rw [st_node,if_neg (by rintro (h | h);exact h rfl;exact h hl),h]
theorem sts_drop {ks:List Int} {cr:Nat} {d:Int} {tv:List Int} {xs ys:List Lfc.Raw} {j:Nat} (h:j<xs.length) (h':j<ys.length) :
  Lfc.Raw.sts ks cr (xs.drop j) (ys.drop j) d tv=match Lfc.Raw.st ks cr xs[j] ys[j] d tv with | none=>none | some tv'=>Lfc.Raw.sts ks cr (xs.drop (j+1)) (ys.drop (j+1)) d tv':=by
 rw [List.drop_eq_getElem_cons h,List.drop_eq_getElem_cons h',Lfc.Raw.sts];rfl
theorem stWalk_upto (w0:World) (ks:List Int) (A0:Option Addr) (c0 cr B1 B2 B3 B4 G:Nat) (hcr:cr≤1000000) (hks:ks.length≤1000000) (hA0:IntsO w0 A0 ks) (m:Nat) (hm:m≤1000000) :
  ∀ (s t:Lfc.Raw) (vs vt:Value) (d:Int) (tv:List Int) (W:World),s.size≤m→0≤d→d+s.size≤2000000→s.obj=true→t.obj=true→TreeV w0 s vs→TreeV w0 t vt→StS w0 ks A0 c0 cr B1 B2 B3 B4 G W tv →
  Calls Tryz.prog 72 #[vs,vt,.int .i64 d,.pointer (some ⟨B1,0,none⟩),.pointer (some ⟨B2,0,none⟩),.pointer (some ⟨B3,0,none⟩),.pointer (some ⟨B4,0,none⟩)] W
   (StAns w0 ks A0 c0 cr B1 B2 B3 B4 G W (s.st ks cr t d tv)):=by
 induction m with
 | zero=>intro s t vs vt d tv W h;have:=s.size_pos;omega
 | succ m ih =>
  intro s t vs vt d tv W hsz hd0 hds hso hto hv hv' hS
  have he:=enters_st
  obtain ⟨kd,nm,ps,xs⟩:=s
  obtain ⟨kd',nm',ps',ys⟩:=t
  obtain ⟨A,c,rfl,hc,hA⟩:=hv.open_
  obtain ⟨A',c',rfl,hc',hA'⟩:=hv'.open_
  simp only [Lfc.Raw.size] at hsz hds
  have hlen:=Lfc.Raw.sizes_len xs
  obtain ⟨Wa,hWa⟩:∃Wa,W.alloc (.cells #[.int .i64 kd,S nm,.int .i64 ps,.slice A xs.length c] 51)=Wa:=⟨_,rfl⟩
  obtain ⟨Wb,hWb⟩:∃Wb,Wa.alloc (.cells #[.int .i64 kd',S nm',.int .i64 ps',.slice A' ys.length c'] 51)=Wb:=⟨_,rfl⟩
  have ba:=zG hWa
  have bb:=zG hWb
  have qa:=zQ hWa
  have qb:=zQ hWb
  have la:=zL qa
  have lb:=zL qb
  have lg:=zL hS.g
  have bW:Below W.heap.size W Wb:=ba.trans (bb.mono (by omega))
  have QA:=zH ((bb.block _ la).trans qa)
  have QB:=zH qb
  have SB:=zH (hS.wide bW)
  have OW:Hid (Oth G W Wb):=zH (Oth.of_below bW)
  have IH:=zH (ih (by omega))
  have HA:=zH hA
  have HA':=zH hA'
  have HB0:=zH hA0
  obtain ⟨y0,y1,y2,y3⟩:=cells4t QA.out
  obtain ⟨z0,z1,z2,z3⟩:=cells4t QB.out
  have c1:=zC SB.out.b1 0
  have c2:=zC SB.out.b2 0
  have c3:=zC SB.out.b3 0
  simp at c1 c2 c3
  have hob:(kd=3∨kd=4∨kd=5∨kd=6)∧(kd=5∨kd=6→0≤ps∧ps≤1048576)∧Lfc.Raw.objs xs=true:=by
   rw [Lfc.Raw.obj] at hso
   split at hso
   ·simp at hso;exact ⟨by omega,by omega,hso.2⟩
   split at hso
   ·simp at hso;exact ⟨by omega,by omega,hso.2⟩
   split at hso
   ·simp at hso;exact ⟨by omega,by omega,hso.2⟩
   split at hso
   ·simp at hso;exact ⟨by omega,by omega,hso.2⟩
   cases hso
  have hob':(kd'=5∨kd'=6→0≤ps'∧ps'≤1048576)∧Lfc.Raw.objs ys=true:=by
   rw [Lfc.Raw.obj] at hto
   split at hto
   ·simp at hto;exact ⟨by omega,hto.2⟩
   split at hto
   ·simp at hto;exact ⟨by omega,hto.2⟩
   split at hto
   ·simp at hto;exact ⟨by omega,hto.2⟩
   split at hto
   ·simp at hto;exact ⟨by omega,hto.2⟩
   cases hto
  obtain ⟨hk4,hps,hox⟩:=hob
  obtain ⟨hps',hoy⟩:=hob'
  have HOX:=zH ((Lfc.objs_spec xs).1 hox)
  have HOY:=zH ((Lfc.objs_spec ys).1 hoy)
  clear ih hv hv' hA hA' ba bb qa qb bW hS hso hto hox hoy hA0
  by_cases hk:kd=kd'
  ·subst hk
   have hk2:(kd != kd)=false:=by simp
   by_cases hl:xs.length=ys.length
   ·have hl2:((xs.length:Int) != (ys.length:Int))=false:=by simp;omega
    have HL:=zH hl
    clear hl
    have HNO:Hid (Lfc.stStep ks cr kd nm nm' ps ps' d tv=none→∀w',Oth G W w'→StAns w0 ks A0 c0 cr B1 B2 B3 B4 G W ((Lfc.Raw.node kd nm ps xs).st ks cr (.node kd nm' ps' ys) d tv) (.returned (.bool false)) w'):=zH (fun h w' ho=>StAns.no (st_none HL.out h) ho)
    have HYES:Hid (∀d2 tv2,Lfc.stStep ks cr kd nm nm' ps ps' d tv=some tv2→d2=(if kd=3 then d+1 else d)→(Lfc.Raw.node kd nm ps xs).st ks cr (.node kd nm' ps' ys) d tv=Lfc.Raw.sts ks cr xs ys d2 tv2):=zH (fun d2 tv2 h hd=>st_some HL.out h hd)
    go_enter Tryz.func72,Tryz.ntmps72
    go_upto_block 0 with fail
    go_cut [2] (fun s2 wx=>∃ (d2:Int) (tv2:List Int),s2=.int .i64 d2∧d≤d2∧d2≤d+1∧Hid (d2=if kd=3 then d+1 else d)∧Hid (Lfc.stStep ks cr kd nm nm' ps ps' d tv=some tv2)∧Hid (StS w0 ks A0 c0 cr B1 B2 B3 B4 G wx tv2)∧Hid (Oth G Wb wx))
    case first =>
     rcases hk4 with rfl | rfl | rfl | rfl
     ·have HST:Hid (Lfc.stStep ks cr 3 nm nm' ps ps' d tv=some tv):=zH (by simp [Lfc.stStep])
      have hwd:IntKind.i64.wrap (d+1)=d+1:=IntWalk.i64_in _ (by omega)
      clear HNO HYES
      go_wp2_with fail
      go_meet
      exact ⟨d+1,tv,rfl,by omega,by omega,zH (by simp),HST,SB,zH (Oth.refl _ _)⟩
     ·by_cases hn:nm=nm'
      ·have HST:Hid (Lfc.stStep ks cr 4 nm nm' ps ps' d tv=some tv):=zH (by simp [Lfc.stStep,hn])
       have hn1:(nm == nm')=true:=by simp [hn]
       have hn2:(nm != nm')=false:=by simp [hn]
       clear HNO HYES hn
       go_wp2_with fail
       go_meet
       exact ⟨d,tv,rfl,by omega,by omega,zH (by simp),HST,SB,zH (Oth.refl _ _)⟩
      have HN:=zH (HNO.out (by simp [Lfc.stStep,hn]))
      have hn1:(nm == nm')=false:=by simp [hn]
      have hn2:(nm != nm')=true:=by simp [hn]
      clear HNO HYES hn
      go_wp2_with fail
      go_ret
      exact HN.out _ OW.out
     ·have hps1:=hps (.inl rfl)
      have hps1':=hps' (.inl rfl)
      clear hps hps'
      by_cases hneg:ps-d<0
      ·have hwq:IntKind.i64.wrap (ps-d)=ps-d:=IntWalk.i64_in _ (by omega)
       have hd1:decide (ps-d<0)=true:=by rw [decide_eq_true_eq];exact hneg
       by_cases hp:ps=ps'
       ·have HST:Hid (Lfc.stStep ks cr 5 nm nm' ps ps' d tv=some tv):=zH (by unfold Lfc.stStep;rw [if_neg (by decide),if_pos rfl,if_pos hneg,if_pos hp])
        have hp1:(ps == ps')=true:=by simp [hp]
        have hp2:(ps != ps')=false:=by simp [hp]
        clear HNO HYES hp
        go_wp2_with fail
        go_meet
        exact ⟨d,tv,rfl,by omega,by omega,zH (by simp),HST,SB,zH (Oth.refl _ _)⟩
       have HN:=zH (HNO.out (by unfold Lfc.stStep;rw [if_neg (by decide),if_pos rfl,if_pos hneg,if_neg hp]))
       have hp1:(ps == ps')=false:=by simp [hp]
       have hp2:(ps != ps')=true:=by simp [hp]
       clear HNO HYES hp
       go_wp2_with fail
       go_ret
       exact HN.out _ OW.out
      obtain ⟨q,hq⟩:∃q:Nat,ps-d=q:=⟨(ps-d).toNat,by omega⟩
      have hwq:IntKind.i64.wrap (ps-d)=(q:Int):=by rw [IntWalk.i64_in _ (by omega)];exact hq
      by_cases hqc:q<cr
      ·have hq0:(0:Int)≤(q:Int):=by omega
       have hq1:(q:Int)<(cr:Int):=by omega
       have hq2:decide ((q:Int)<(cr:Int))=true:=by rw [decide_eq_true_eq];exact hq1
       have hq3:decide ((q:Int)<0)=false:=by rw [decide_eq_false_iff_not];omega
       obtain ⟨cq,fq⟩:=SB.out.cell hqc
       have E0:Hid (Lfc.stStep ks cr 5 nm nm' ps ps' d tv=if ps'-d<0∨Lfc.kindOf ks (ps'-d)≠2∨(0≤tv.getD q 0∧tv.getD q 0≠ps'-d) then none else some (tv.set q (ps'-d))):=zH (by
        unfold Lfc.stStep
        rw [if_neg (by decide),if_pos rfl,if_neg hneg,if_pos (by omega),hq]
        rfl)
       by_cases hjn:ps'-d<0
       ·have HN:=zH (HNO.out (by rw [E0.out,if_pos (.inl hjn)]))
        have hwj:IntKind.i64.wrap (ps'-d)=ps'-d:=IntWalk.i64_in _ (by omega)
        have hj1:decide (ps'-d<0)=true:=by rw [decide_eq_true_eq];exact hjn
        clear HNO HYES E0
        go_wp2_with fail
        go_ret
        exact HN.out _ OW.out
       obtain ⟨j,hj⟩:∃j:Nat,ps'-d=j:=⟨(ps'-d).toNat,by omega⟩
       rw [hj] at E0
       have hwj:IntKind.i64.wrap (ps'-d)=(j:Int):=by rw [IntWalk.i64_in _ (by omega)];exact hj
       have hj1:decide ((j:Int)<0)=false:=by rw [decide_eq_false_iff_not];omega
       have CK:=zH (oKind_any ks A0 c0 (j:Int) Wb (by omega) hks (HB0.out.below SB.out.below))
       obtain ⟨kj,hkj⟩:∃kj,Lfc.kindOf ks (j:Int)=kj:=⟨_,rfl⟩
       obtain ⟨z,hz⟩:∃z,tv.getD q 0=z:=⟨_,rfl⟩
       rw [hkj] at CK E0
       rw [hz] at cq E0
       clear hkj hz
       by_cases hk5:kj=2
       ·subst hk5
        by_cases hz0:0≤z
        ·have hz1:decide (0≤z)=true:=by rw [decide_eq_true_eq];exact hz0
         have hz2:decide (z≥0)=true:=by rw [decide_eq_true_eq];exact hz0
         by_cases hzj:z=(j:Int)
         ·have HST:Hid (Lfc.stStep ks cr 5 nm nm' ps ps' d tv=some (tv.set q (j:Int))):=zH (by rw [E0.out,if_neg (by rintro (h | h | h);omega;exact h rfl;exact h.2 hzj)])
          have hzj1:(z == (j:Int))=true:=by simp [hzj]
          have hzj2:(z != (j:Int))=false:=by simp [hzj]
          clear HNO HYES E0 hzj
          go_wp2_with fail
          refine CK.out.mono ?_
          rintro e w2 ⟨rfl,rfl⟩
          go_wp2_with fail
          go_meet
          exact ⟨d,_,rfl,by omega,by omega,zH (by simp),HST,zH (SB.out.set q _),zH (Oth.set _ _)⟩
         have HN:=zH (HNO.out (by rw [E0.out,if_pos (.inr (.inr ⟨hz0,hzj⟩))]))
         have hzj1:(z == (j:Int))=false:=by simp [hzj]
         have hzj2:(z != (j:Int))=true:=by simp [hzj]
         clear HNO HYES E0 hzj
         go_wp2_with fail
         refine CK.out.mono ?_
         rintro e w2 ⟨rfl,rfl⟩
         go_wp2_with fail
         go_ret
         exact HN.out _ OW.out
        have HST:Hid (Lfc.stStep ks cr 5 nm nm' ps ps' d tv=some (tv.set q (j:Int))):=zH (by rw [E0.out,if_neg (by rintro (h | h | h);omega;exact h rfl;exact hz0 h.1)])
        have hz1:decide (0≤z)=false:=by rw [decide_eq_false_iff_not];exact hz0
        have hz2:decide (z≥0)=false:=by rw [decide_eq_false_iff_not];exact hz0
        clear HNO HYES E0 hz0
        go_wp2_with fail
        refine CK.out.mono ?_
        rintro e w2 ⟨rfl,rfl⟩
        go_wp2_with fail
        go_meet
        exact ⟨d,_,rfl,by omega,by omega,zH (by simp),HST,zH (SB.out.set q _),zH (Oth.set _ _)⟩
       have HN:=zH (HNO.out (by rw [E0.out,if_pos (.inr (.inl hk5))]))
       have hk6:(kj == 2)=false:=by simpa using hk5
       have hk7:(kj != 2)=true:=by simpa using hk5
       clear HNO HYES E0 hk5
       go_wp2_with fail
       refine CK.out.mono ?_
       rintro e w2 ⟨rfl,rfl⟩
       go_wp2_with fail
       go_ret
       exact HN.out _ OW.out
      have hq2:decide ((q:Int)<(cr:Int))=false:=by rw [decide_eq_false_iff_not];omega
      have hq3:decide ((q:Int)<0)=false:=by rw [decide_eq_false_iff_not];omega
      have hwc:IntKind.i64.wrap (ps-(cr:Int))=ps-(cr:Int):=IntWalk.i64_in _ (by omega)
      have E0:Hid (Lfc.stStep ks cr 5 nm nm' ps ps' d tv=if ps'=ps-(cr:Int) then some tv else none):=zH (by
       unfold Lfc.stStep
       rw [if_neg (by decide),if_pos rfl,if_neg hneg,if_neg (by omega)])
      by_cases hp:ps'=ps-(cr:Int)
      ·have HST:Hid (Lfc.stStep ks cr 5 nm nm' ps ps' d tv=some tv):=zH (by rw [E0.out,if_pos hp])
       have hp1:(ps' == ps-(cr:Int))=true:=by simp [hp]
       have hp2:(ps' != ps-(cr:Int))=false:=by simp [hp]
       clear HNO HYES E0 hp
       go_wp2_with fail
       go_meet
       exact ⟨d,tv,rfl,by omega,by omega,zH (by simp),HST,SB,zH (Oth.refl _ _)⟩
      have HN:=zH (HNO.out (by rw [E0.out,if_neg hp]))
      have hp1:(ps' == ps-(cr:Int))=false:=by simp [hp]
      have hp2:(ps' != ps-(cr:Int))=true:=by simp [hp]
      clear HNO HYES E0 hp
      go_wp2_with fail
      go_ret
      exact HN.out _ OW.out
     by_cases hp:ps=ps'
     ·have HST:Hid (Lfc.stStep ks cr 6 nm nm' ps ps' d tv=some tv):=zH (by simp [Lfc.stStep,hp])
      have hp1:(ps == ps')=true:=by simp [hp]
      have hp2:(ps != ps')=false:=by simp [hp]
      clear HNO HYES hp
      go_wp2_with fail
      go_meet
      exact ⟨d,tv,rfl,by omega,by omega,zH (by simp),HST,SB,zH (Oth.refl _ _)⟩
     have HN:=zH (HNO.out (by simp [Lfc.stStep,hp]))
     have hp1:(ps == ps')=false:=by simp [hp]
     have hp2:(ps != ps')=true:=by simp [hp]
     clear HNO HYES hp
     go_wp2_with fail
     go_ret
     exact HN.out _ OW.out
    obtain ⟨d2,tv2,rfl,hd1,hd2,HD,HST,HS2,HO2⟩:=hcut
    have HEQ:=zH (HYES.out d2 tv2 HST.out HD.out)
    have HNE:=zH (And.intro (show W.heap.size≠G by omega) (show Wa.heap.size≠G by omega))
    clear y0 y1 y2 y3 z0 z1 z2 z3 c1 c2 c3 HNO HYES HD HST hps hps' hk4 hWa hWb
    obtain ⟨y0,y1,y2,y3⟩:=cells4t (HO2.out.heap QA.out HNE.out.1)
    go_wp2_with fail
    go_loopw [108] (fun i wr=>∃ (j:Nat) (tv3:List Int),j≤xs.length∧i=.int .i64 j∧Hid (Lfc.Raw.sts ks cr xs ys d2 tv2=Lfc.Raw.sts ks cr (xs.drop j) (ys.drop j) d2 tv3)∧Hid (StS w0 ks A0 c0 cr B1 B2 B3 B4 G wr tv3)∧Hid (Oth G Wb wr)) (fun i _=>xs.length-(intOf i).toNat)
    case atStart=>exact ⟨0,tv2,by omega,rfl,zH (by rw [List.drop_zero,List.drop_zero]),HS2,HO2⟩
    clear y0 y1 y2 y3 HS2 HO2
    obtain ⟨j,tv3,hj,rfl,HQ,HS,HO⟩:=hrel
    obtain ⟨y0,y1,y2,y3⟩:=cells4t (HO.out.heap QA.out HNE.out.1)
    obtain ⟨z0,z1,z2,z3⟩:=cells4t (HO.out.heap QB.out HNE.out.2)
    have c4:=zC HS.out.b4 0
    simp at c4
    by_cases hlt:j<xs.length
    ·have hlt':j<ys.length:=by have:=HL.out;omega
     obtain ⟨b,o,k1,n1,p1,us,B,cc1,rfl,hb,ht,d0,dd1,dd2,dd3,hcu,hB,hT⟩:=HA.out.at_ hlt
     obtain ⟨b',o',k2,n2,p2,us',B',cc2,rfl,hb',ht',e0,e1,e2,e3,hcu',hB',hT'⟩:=HA'.out.at_ hlt'
     have hmem:=Lfc.Raw.sizes_mem xs xs[j] (List.getElem_mem _)
     have hi0:(0:Int)≤(j:Int):=Int.natCast_nonneg _
     have hi1:(j:Int)<(xs.length:Int):=by omega
     have hi2:(j:Int)<(ys.length:Int):=by omega
     have HBL:=zH HS.out.below
     have f0:=(HBL.out.cell (p:=⟨b,o+j*4,none⟩) hb).trans d0
     have f1:=(HBL.out.cell (p:=⟨b,o+j*4+1,none⟩) hb).trans dd1
     have f2:=(HBL.out.cell (p:=⟨b,o+j*4+2,none⟩) hb).trans dd2
     have f3:=(HBL.out.cell (p:=⟨b,o+j*4+3,none⟩) hb).trans dd3
     have g0:=(HBL.out.cell (p:=⟨b',o'+j*4,none⟩) hb').trans e0
     have g1:=(HBL.out.cell (p:=⟨b',o'+j*4+1,none⟩) hb').trans e1
     have g2:=(HBL.out.cell (p:=⟨b',o'+j*4+2,none⟩) hb').trans e2
     have g3:=(HBL.out.cell (p:=⟨b',o'+j*4+3,none⟩) hb').trans e3
     have CALL:=zH (IH.out xs[j] ys[j] _ _ d2 tv3 wr.drew (by omega) (by omega) (by omega) (HOX.out j hlt) (HOY.out j hlt') hT hT' (HS.out.wide (zB _ _).drew))
     have HQ2:=zH (HQ.out.trans (sts_drop hlt hlt'))
     obtain ⟨r,hr⟩:∃r,Lfc.Raw.st ks cr xs[j] ys[j] d2 tv3=r:=⟨_,rfl⟩
     rw [hr] at CALL HQ2
     clear hr hB hB' ht ht' hT hT' d0 dd1 dd2 dd3 e0 e1 e2 e3 HS HQ
     go_wp2_with fail
     refine wp_region_still_tail 12 (by kernel_rfl) (by kernel_rfl) ?_
     simp only [List.take_succ_cons,List.take_zero,List.drop_succ_cons,List.drop_zero]
     change wpStill Tryz.prog _ wr.drew _ _ _
     repeat still_step
     try refine wpStill_nil ?_
     change wpList _ _ _ _ _ wr.drew
     go_wp2_with fail
     refine CALL.out.mono ?_
     rintro e w1 ⟨(⟨hn,rfl⟩ | ⟨tv4,hs4,rfl,S4⟩),o4⟩
     ·have HN:Hid (StAns w0 ks A0 c0 cr B1 B2 B3 B4 G W ((Lfc.Raw.node kd nm ps xs).st ks cr (.node kd nm' ps' ys) d tv) (.returned (.bool false)) w1):=zH (StAns.no (by rw [HEQ.out,HQ2.out,hn]) ((OW.out.trans HO.out).trans ((Oth.refl _ _).drew.trans o4)))
      clear hn o4
      go_wp2_with fail
      go_ret
      exact HN.out
     have HQ3:=zH (show Lfc.Raw.sts ks cr xs ys d2 tv2=Lfc.Raw.sts ks cr (xs.drop (j+1)) (ys.drop (j+1)) d2 tv4 by rw [HQ2.out,hs4])
     have HS4:=zH S4
     have HO4:=zH (HO.out.trans ((Oth.refl _ _).drew.trans o4))
     clear hs4 S4 o4
     go_wp2_with fail
     go_roundw
     case rel=>exact ⟨j+1,tv4,by omega,by go_num,HQ3,HS4,HO4⟩
     case measure=>simp [intOf];omega
    obtain rfl:j=xs.length:=by omega
    have HZ:Hid (StAns w0 ks A0 c0 cr B1 B2 B3 B4 G W ((Lfc.Raw.node kd nm ps xs).st ks cr (.node kd nm' ps' ys) d tv) (.returned (.bool true)) wr):=zH (by
     refine ⟨.inr ⟨tv3,?_,rfl,HS.out⟩,OW.out.trans HO.out⟩
     rw [HEQ.out,HQ.out,List.drop_length,HL.out,List.drop_length,Lfc.Raw.sts]
     all_goals intros;simp_all)
    clear HQ
    go_wp2_with fail
    go_ret
    exact HZ.out
   have hl2:((xs.length:Int) != (ys.length:Int))=true:=by simp;omega
   have hl3:(xs.length == ys.length)=false:=by simpa using hl
   have HR:=zH (StAns.no (w0:=w0) (ks:=ks) (A0:=A0) (c0:=c0) (cr:=cr) (B1:=B1) (B2:=B2) (B3:=B3) (B4:=B4) (show (Lfc.Raw.node kd nm ps xs).st ks cr (.node kd nm' ps' ys) d tv=none by rw [st_node,if_pos (.inr hl)]) OW.out)
   clear hl
   go_enter Tryz.func72,Tryz.ntmps72
   go_wp2_with fail
   go_ret
   exact HR.out
  have hk2:(kd != kd')=true:=by simpa using hk
  have hk3:(kd == kd')=false:=by simpa using hk
  have HR:=zH (StAns.no (w0:=w0) (ks:=ks) (A0:=A0) (c0:=c0) (cr:=cr) (B1:=B1) (B2:=B2) (B3:=B3) (B4:=B4) (show (Lfc.Raw.node kd nm ps xs).st ks cr (.node kd' nm' ps' ys) d tv=none by rw [st_node,if_pos (.inl hk)]) OW.out)
  clear hk
  go_enter Tryz.func72,Tryz.ntmps72
  go_wp2_with fail
  go_ret
  exact HR.out
end Go.Proofs.YtadjpadieljjlaaGreat
namespace Lfc
def Raw.stands (ks:List Int) (cr:Nat) (s t:Raw):Bool:=(s.st ks cr t 0 (List.replicate cr (-1))).isSome
theorem rep_set (a b:Int) (n k:Nat) (h:k<n):(List.replicate k a++List.replicate (n-k) b).set k a=List.replicate (k+1) a++List.replicate (n-(k+1)) b:=by
 rw [List.set_append_right _ _ (by simp)]
 obtain ⟨m,hm⟩:∃m,n-k=m+1:=⟨n-k-1,by omega⟩
 rw [hm,List.length_replicate,Nat.sub_self,List.replicate_succ,List.set_cons_zero,show n-(k+1)=m by omega,List.replicate_succ',List.append_assoc]
 rfl
end Lfc
namespace Go.Proofs.YtadjpadieljjlaaGreat
open Go.RowKit
theorem intInfo:(Tryz.prog.info? 3).map (fun i=>(i.zero,i.size,i.bytes))=some (some (.int .i64 0),1,8):=by kernel_rfl
theorem made_ints (n:Nat):madeCells (Value.int .i64 0).cells n=(ints (List.replicate n 0)).toArray:=by
 apply Array.ext
 ·simp [madeCells,ints]
 intro i h1 h2
 simp [madeCells,ints,Value.cells]
 rw [Nat.mod_one]
 rfl
theorem ints_cell {W:World} {G q:Nat} {tv:List Int} {t:TypeId} (h:W.heap[G]?=some (.cells (ints tv).toArray t (0,0))) (hq:q<tv.length):W.cell? ⟨G,q,none⟩=some (.int .i64 (tv.getD q 0)):=by
 rw [zC h q]
 simp [ints,List.getD_eq_getElem?_getD,List.getElem?_eq_getElem hq]
theorem makeInts (n:Nat) (hn:n≤1000000) (W:World):(Instr.makeSlice 22 (.int .i64 (n:Int)) (.int .i64 (n:Int))).run Tryz.prog W=.ok (.slice (some ⟨W.heap.size,0,none⟩) n n) (W.alloc (.cells (ints (List.replicate n 0)).toArray 3)):=by
 obtain ⟨i0,hi,hz0,hz1,hz2⟩:=info_parts intInfo
 have hr:=run_make (P:=Tryz.prog) W 22 3 i0 (.int .i64 0) Tryz.underlying22 hi hz0 .i64 .i64 n n (by omega) (by omega) (by rw [hz2];omega) (by omega)
 simp only [Int.toNat_natCast,hz1,Nat.mul_one,made_ints] at hr
 exact hr
theorem oStands_any (s t:Lfc.Raw) (vs vt:Value) (cr:Nat) (ks:List Int) (A0:Option Addr) (c0:Nat) (w:World) (hcr:cr≤1000000) (hks:ks.length≤1000000) (hs:s.size≤1000000) (hso:s.obj=true) (hto:t.obj=true) (hA0:IntsO w A0 ks) (hv:TreeV w s vs) (hv':TreeV w t vt) :
  Calls Tryz.prog 45 #[vs,vt,.int .i64 (cr:Int),.slice A0 ks.length c0] w fun e w'=>e=.returned (.bool (Lfc.Raw.stands ks cr s t))∧Below w.heap.size w w':=by
 have he:=enters_st
 have HV:=zH hv
 have HV':=zH hv'
 obtain ⟨kd,nm,ps,xs,rfl⟩:∃kd nm ps xs,s=.node kd nm ps xs:=by
  cases s with
  | node kd nm ps xs=>exact ⟨kd,nm,ps,xs,rfl⟩
 obtain ⟨kd',nm',ps',ys,rfl⟩:∃kd nm ps xs,t=.node kd nm ps xs:=by
  cases t with
  | node kd nm ps xs=>exact ⟨kd,nm,ps,xs,rfl⟩
 obtain ⟨A,c,rfl,hc,hA⟩:=hv.open_
 obtain ⟨A',c',rfl,hc',hA'⟩:=hv'.open_
 have hmk:=fun W=>makeInts cr hcr W
 obtain ⟨w1,hw1⟩:∃w1,w.alloc (.cells #[.int .i64 kd,S nm,.int .i64 ps,.slice A xs.length c] 51)=w1:=⟨_,rfl⟩
 obtain ⟨w2,hw2⟩:∃w2,w1.alloc (.cells #[.int .i64 kd',S nm',.int .i64 ps',.slice A' ys.length c'] 51)=w2:=⟨_,rfl⟩
 obtain ⟨w3,hw3⟩:∃w3,w2.alloc (.cells #[.int .i64 (cr:Int)] 3)=w3:=⟨_,rfl⟩
 obtain ⟨w4,hw4⟩:∃w4,w3.alloc (.cells #[.slice A0 ks.length c0] 22)=w4:=⟨_,rfl⟩
 obtain ⟨w5,hw5⟩:∃w5,w4.alloc (.cells (ints (List.replicate cr 0)).toArray 3)=w5:=⟨_,rfl⟩
 obtain ⟨w6,hw6⟩:∃w6,w5.alloc (.cells #[.slice (some ⟨w4.heap.size,0,none⟩) cr cr] 22)=w6:=⟨_,rfl⟩
 have b1:=zG hw1
 have b2:=zG hw2
 have b3:=zG hw3
 have b4:=zG hw4
 have b5:=zG hw5
 have b6:=zG hw6
 have q1:=zQ hw1
 have q2:=zQ hw2
 have q3:=zQ hw3
 have q4:=zQ hw4
 have q5:=zQ hw5
 have q6:=zQ hw6
 have l1:=zL q1
 have l2:=zL q2
 have l3:=zL q3
 have l4:=zL q4
 have l5:=zL q5
 have l6:=zL q6
 have b46:Below w4.heap.size w4 w6:=b5.trans (b6.mono (by omega))
 have b36:Below w3.heap.size w3 w6:=b4.trans (b46.mono (by omega))
 have b26:Below w2.heap.size w2 w6:=b3.trans (b36.mono (by omega))
 have b16:Below w1.heap.size w1 w6:=b2.trans (b26.mono (by omega))
 have b06:Below w.heap.size w w6:=b1.trans (b16.mono (by omega))
 have Q1:=zH ((b16.block _ (by omega)).trans q1)
 have Q2:=zH ((b26.block _ (by omega)).trans q2)
 have Q3:=zH ((b36.block _ (by omega)).trans q3)
 have Q4:=zH ((b46.block _ (by omega)).trans q4)
 have Q5:=zH ((b6.block _ (by omega)).trans q5)
 have Q6:=zH q6
 have B06:=zH b06
 have HOB:=zH (And.intro hso hto)
 have HA0:=zH hA0
 have HSZ:=zH hs
 have y3:=zC q3 0
 have y3a:w4.cell? ⟨w2.heap.size,0,none⟩=some (.int .i64 (cr:Int)):=zC ((b4.block _ (by omega)).trans q3) 0
 have y6:=zC Q6.out 0
 simp at y3 y6
 clear hv hv' hA hA' hA0 hso hto b1 b2 b3 b4 b5 b6 q1 q2 q3 q4 q5 q6 b46 b36 b26 b16 b06 hs
 have HW6:=zH hw6
 clear hw6
 go_enter Tryz.func45,Tryz.ntmps45
 go_upto_region 2 with fail
 rw [HW6.out]
 clear HW6 hmk y3 y3a hw1 hw2 hw3 hw4 hw5
 go_wp2_with fail
 go_loopw [16] (fun i wr=>∃k:Nat,k≤cr∧i=.int .i64 (k:Int)∧Hid (wr.heap[w4.heap.size]?=some (.cells (ints (List.replicate k (-1)++List.replicate (cr-k) 0)).toArray 3 (0,0))∧Oth w4.heap.size w6 wr)) (fun i _=>cr-(intOf i).toNat)
 case atStart=>exact ⟨0,by omega,rfl,zH ⟨by simpa using Q5.out,Oth.refl _ _⟩⟩
 clear y6
 obtain ⟨k,hk,rfl,HR⟩:=hrel
 have y6:=zC (HR.out.2.heap Q6.out (by omega)) 0
 simp at y6
 by_cases hlt:k<cr
 ·have hi0:(0:Int)≤(k:Int):=Int.natCast_nonneg _
  have hi1:(k:Int)<(cr:Int):=by omega
  have yk:wr.cell? ⟨w4.heap.size,k,none⟩=some (.int .i64 ((List.replicate k (-1:Int)++List.replicate (cr-k) 0).getD k 0)):=ints_cell HR.out.1 (by simp;omega)
  have fk:=zF HR.out.1 k
  generalize (List.replicate k (-1:Int)++List.replicate (cr-k) 0).getD k 0=zk at yk
  have HN:Hid ((wr.setCell ⟨w4.heap.size,k,none⟩ (.int .i64 (-1))).heap[w4.heap.size]?=some (.cells (ints (List.replicate (k+1) (-1)++List.replicate (cr-(k+1)) 0)).toArray 3 (0,0))∧Oth w4.heap.size w6 (wr.setCell ⟨w4.heap.size,k,none⟩ (.int .i64 (-1)))):=zH ⟨by
   rw [←Lfc.rep_set _ _ _ _ hlt]
   simp [World.setCell,Array.getElem?_modify,HR.out.1,ints,List.map_set],HR.out.2.trans (Oth.set _ _)⟩
  clear HR
  go_wp2_with fail
  go_roundw
  case rel=>exact ⟨k+1,by omega,by go_num,HN⟩
  case measure=>simp [intOf];omega
 obtain rfl:k=cr:=by omega
 obtain ⟨wz,hwz⟩:∃wz,wr.alloc (.cells #[.func (.func 72) #[] #[.pointer (some ⟨w2.heap.size,0,none⟩),.pointer (some ⟨w3.heap.size,0,none⟩),.pointer (some ⟨w5.heap.size,0,none⟩),.pointer (some ⟨wr.heap.size,0,none⟩)]] 129)=wz:=⟨_,rfl⟩
 have bz:=zG hwz
 have qz:=by have:=zW wr (.cells #[.func (.func 72) #[] #[.pointer (some ⟨w2.heap.size,0,none⟩),.pointer (some ⟨w3.heap.size,0,none⟩),.pointer (some ⟨w5.heap.size,0,none⟩),.pointer (some ⟨wr.heap.size,0,none⟩)]] 129);rw [hwz] at this;exact this
 have ho:=HR.out.2
 have hsr:=ho.size
 have k1:=ho.heap Q1.out (show w.heap.size≠w4.heap.size by omega)
 have k2:=ho.heap Q2.out (show w1.heap.size≠w4.heap.size by omega)
 have k3:=ho.heap Q3.out (show w2.heap.size≠w4.heap.size by omega)
 have k4:=ho.heap Q4.out (show w3.heap.size≠w4.heap.size by omega)
 have k6:=ho.heap Q6.out (show w5.heap.size≠w4.heap.size by omega)
 have bwz:Below w.heap.size w wz:=(Oth.below B06.out ho (by omega) (by omega)).trans (bz.mono (by omega))
 have SZ:StS w ks A0 c0 k w2.heap.size w3.heap.size w5.heap.size wr.heap.size w4.heap.size wz (List.replicate k (-1)):=by
  refine ⟨bwz,(bz.block _ (by omega)).trans k3,(bz.block _ (by omega)).trans k4,(bz.block _ (by omega)).trans k6,qz,?_,by simp,by omega⟩
  have:=HR.out.1
  rw [Nat.sub_self,List.replicate_zero,List.append_nil] at this
  exact (bz.block _ (by omega)).trans this
 obtain ⟨y0,y1,y2,y3⟩:=cells4t ((bz.block _ (by omega)).trans k1)
 obtain ⟨z0,z1,z2,z3⟩:=cells4t ((bz.block _ (by omega)).trans k2)
 have c4:=zC qz 0
 simp at c4
 have CALL:=zH (stWalk_upto w ks A0 c0 k _ _ _ _ _ hcr hks HA0.out _ HSZ.out _ _ _ _ 0 _ wz (zN _) (by omega) (by have:=HSZ.out;omega) HOB.out.1 HOB.out.2 HV.out HV'.out SZ)
 have HBW:=zH bwz
 have HWZ:=zH hwz
 have hs04:w.heap.size≤w4.heap.size:=by omega
 have hsz:=bwz.size
 obtain ⟨r,hr⟩:∃r,(Lfc.Raw.node kd nm ps xs).st ks k (.node kd' nm' ps' ys) 0 (List.replicate k (-1))=r:=⟨_,rfl⟩
 have HST:=zH (show Lfc.Raw.stands ks k (.node kd nm ps xs) (.node kd' nm' ps' ys)=r.isSome by rw [Lfc.Raw.stands,hr])
 rw [hr] at CALL
 clear hwz bz qz ho k1 k2 k3 k4 k6 bwz SZ hr HR
 go_upto_region 9 with fail
 rw [HWZ.out]
 go_wp2_with fail
 refine CALL.out.mono ?_
 rintro e w9 ⟨(⟨hn,rfl⟩ | ⟨tv4,hs4,rfl,S4⟩),o4⟩
 ·go_wp2_with fail
  go_ret
  exact ⟨by rw [HST.out,hn];rfl,Oth.below HBW.out o4 hs04 hsz⟩
 go_wp2_with fail
 go_ret
 exact ⟨by rw [HST.out,hs4];rfl,Oth.below HBW.out o4 hs04 hsz⟩
end Go.Proofs.YtadjpadieljjlaaGreat
