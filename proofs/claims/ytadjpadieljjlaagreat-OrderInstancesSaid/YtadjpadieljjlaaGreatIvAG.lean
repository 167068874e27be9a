/- Parts of the proof that no input makes the law false: OrConcat, OrRel, OrForm, OrShape, OrVld, OrChk, OrLinks. -/
import Derived.Test.YtadjpadieljjlaaGreatIvAF
set_option linter.unusedVariables false
set_option linter.unusedSimpArgs false
set_option maxRecDepth 100000
set_option maxHeartbeats 32000000
namespace Go.Proofs.YtadjpadieljjlaaGreat
open Go.RowKit Go.Maps
structure Part where
 A:Option Addr
 n:Nat
 c:Nat
 xs:List Value
def partsN:List Part→Nat
 | []=>0
 | p :: r=>p.n+partsN r
def partsX:List Part→List Value
 | []=>[]
 | p :: r=>p.xs++partsX r
theorem partsN_append:∀ (l r:List Part),partsN (l++r)=partsN l+partsN r
 | [],r=>by simp [partsN]
 | p :: l,r=>by rw [List.cons_append,partsN,partsN,partsN_append l r];omega
theorem partsX_append:∀ (l r:List Part),partsX (l++r)=partsX l++partsX r
 | [],r=>by simp [partsX]
 | p :: l,r=>by rw [List.cons_append,partsX,partsX,partsX_append l r,List.append_assoc]
theorem partsN_succ {l:List Part} {k:Nat} (h:k<l.length):partsN (l.take (k+1))=partsN (l.take k)+l[k].n:=by
 rw [List.take_succ_eq_append_getElem h,partsN_append];simp [partsN]
theorem partsX_succ {l:List Part} {k:Nat} (h:k<l.length):partsX (l.take (k+1))=partsX (l.take k)++l[k].xs:=by
 rw [List.take_succ_eq_append_getElem h,partsX_append];simp [partsX]
theorem partsN_take (l:List Part) (k:Nat):partsN (l.take k)≤partsN l:=by
 have:=partsN_append (l.take k) (l.drop k)
 rw [List.take_append_drop] at this
 omega
def PartsO (w:World) (g o:Nat) (Ls:List Part):Prop:=∀k (h:k<Ls.length),w.cell? ⟨g,o+k,none⟩=some (.slice Ls[k].A Ls[k].n Ls[k].c)∧Ls[k].xs.length=Ls[k].n*4∧(Ls[k].A=none→Ls[k].n=0∧Ls[k].c=0)∧(∀a,Ls[k].A=some a→∀j u,Ls[k].xs[j]?=some u→w.cell? (a.add j)=some u)∧(∀u∈Ls[k].xs,u.oneCell'=true)
theorem PartsO.below {w w':World} {g o:Nat} {Ls:List Part} (h:PartsO w g o Ls) (hb:Below w.heap.size w w'):PartsO w' g o Ls:=fun k hk=>by
 obtain ⟨h1,h2,h3,h4,h5⟩:=h k hk
 exact ⟨(hb.cell (World.block_lt_of_cell? w _ h1)).trans h1,h2,h3,fun a ha j u hj=>(hb.cell (World.block_lt_of_cell? w _ (h4 a ha j u hj))).trans (h4 a ha j u hj),h5⟩
theorem concatT_any (g o c:Nat) (Ls:List Part) (w:World) (hL:Ls.length≤1000) (hN:partsN Ls≤10000000) (hP:PartsO w g o Ls) :
  Calls Tryz.prog 59 #[.slice (some ⟨g,o,none⟩) Ls.length c] w fun e w'=>(∃v,e=.returned v∧w'.ownsRow w.heap.size 51 4 v (partsN Ls) (partsX Ls))∧Below w.heap.size w w':=by
 obtain ⟨i0,hi,hz0,hz1,hz2⟩:=info_parts termInfo
 have HP:=zH hP
 clear hP
 obtain ⟨N,hNN⟩:∃N,partsN Ls=N:=⟨_,rfl⟩
 have HNN:=zH hNN
 have hN2:N≤10000000:=by omega
 clear hN hNN
 have CG:=zH (growT_any N w hN2)
 go_enter Tryz.func59,Tryz.ntmps59
 go_wp2_with fail
 go_loopw [3,11] (fun s i wr=>∃k:Nat,k≤Ls.length∧s=.int .i64 (partsN (Ls.take k):Nat)∧i=.int .i64 (k:Int)∧wr=w) (fun _ i _=>Ls.length-(intOf i).toNat)
 case atStart=>exact ⟨0,by omega,by simp [partsN],by simp,by simp⟩
 obtain ⟨k,hk,rfl,rfl,hwx⟩:=hrel
 subst hwx
 by_cases hlt:k<Ls.length
 ·obtain ⟨h1,h2,h3,h4,h5⟩:=HP.out k hlt
  have HS:=zH (partsN_succ hlt)
  have hT:partsN (Ls.take (k+1))≤N:=by rw [←HNN.out];exact partsN_take _ _
  have hsum:partsN (Ls.take k)+Ls[k].n≤N:=by rw [←HS.out];exact hT
  have hi0:(0:Int)≤(k:Int):=Int.natCast_nonneg _
  have hi1:(k:Int)<(Ls.length:Int):=by omega
  have hwr:IntKind.i64.wrap ((partsN (Ls.take k):Int)+(Ls[k].n:Int))=(partsN (Ls.take k):Int)+(Ls[k].n:Int):=IntWalk.i64_in _ (by omega)
  have hd:decide ((partsN (Ls.take k):Int)+(Ls[k].n:Int)<0)=false:=by rw [decide_eq_false_iff_not];omega
  have hd2:¬ ((partsN (Ls.take k):Int)+(Ls[k].n:Int)<0):=by omega
  clear h2 h3 h4 h5 hT
  go_wp2_with fail
  go_roundw
  case rel=>exact ⟨k+1,by omega,by rw [HS.out];go_num,by go_num,by simp⟩
  case measure=>simp [intOf];omega
 obtain rfl:k=Ls.length:=by omega
 have hTE:partsN (Ls.take Ls.length)=N:=by rw [List.take_length];exact HNN.out
 rw [hTE]
 clear hTE
 go_wp2_with fail
 refine CG.out.mono ?_
 rintro e w2 ⟨⟨v,rfl,hown⟩,hb⟩
 have HW:=zH (show w2.ownsRow wr.heap.size 51 4 v (partsN (Ls.take 0)) (partsX (Ls.take 0))∧Below wr.heap.size wr w2 from ⟨hown,hb⟩)
 clear hown hb CG
 obtain ⟨wq,hwq⟩:∃wq,wq=wr:=⟨_,rfl⟩
 subst hwq
 go_wp2_with fail
 go_loopw [6,27] (fun v i wr=>∃k:Nat,k≤Ls.length∧i=.int .i64 (k:Int)∧Hid (wr.ownsRow wq.heap.size 51 4 v (partsN (Ls.take k)) (partsX (Ls.take k))∧Below wq.heap.size wq wr)) (fun _ i _=>Ls.length-(intOf i).toNat)
 case atStart=>exact ⟨0,by omega,rfl,HW⟩
 obtain ⟨k,hk,rfl,HI⟩:=hrel
 obtain ⟨hown,hb⟩:=HI.out
 by_cases hlt:k<Ls.length
 ·obtain ⟨h1,h2,h3,h4,h5⟩:=(HP.out.below hb) k hlt
  have HS:=zH (partsN_succ hlt)
  have HX:=zH (partsX_succ hlt)
  have hT:partsN (Ls.take (k+1))≤N:=by rw [←HNN.out];exact partsN_take _ _
  have hsum:partsN (Ls.take k)+Ls[k].n≤N:=by rw [←HS.out];exact hT
  have hi0:(0:Int)≤(k:Int):=Int.natCast_nonneg _
  have hi1:(k:Int)<(Ls.length:Int):=by omega
  generalize Ls[k]=P at *
  obtain ⟨PA,Pn,Pc,Px⟩:=P
  simp only at h1 h2 h3 h4 h5 hsum HS HX
  have HO:=zH hown
  have HB:=zH hb
  clear hown hb HI HW
  cases PA with
  | none =>
   obtain ⟨rfl,rfl⟩:=h3 rfl
   have hx0:Px=[]:=List.length_eq_zero_iff.1 (by omega)
   clear h2 h3 h4 h5
   go_wp2_with (at_builtin;refine wpList_append_own_none rfl _ _ 27 rfl wq.heap.size 51 i0 4 Tryz.underlying27 hi _ _ _ rfl HO.out rfl ?_)
   go_roundw
   case rel=>exact ⟨k+1,by omega,by go_num,zH ⟨by rw [HS.out,HX.out,hx0,Nat.add_zero,List.append_nil];exact HO.out,HB.out⟩⟩
   case measure=>simp [intOf];omega
  | some a =>
   have H4:=zH (h4 a rfl)
   have H5:=zH h5
   have H2:=zH h2
   clear h2 h3 h4 h5
   go_wp2_with (at_builtin;refine wpList_append_own_at _ rfl _ _ 27 rfl wq.heap.size 51 i0 _ 4 56 Tryz.underlying27 hi hz0 hz1 hz2 rfl (by decide) _ _ _ rfl HO.out a Pn Pc Px rfl H2.out H4.out H5.out (by unfold maxLen;omega) (by omega) HB.out.size ?_)
   intro v9 w9 hown9 hg9 _ _
   have HZ:Hid (w9.ownsRow wq.heap.size 51 4 v9 (partsN (Ls.take (k+1))) (partsX (Ls.take (k+1)))∧Below wq.heap.size wq w9):=zH ⟨by rw [HS.out,HX.out];exact hown9,Below.grown HB.out hg9 HB.out.size (fun b e=>(HO.out.lt b e).1)⟩
   clear hown9 hg9
   go_wp2_with fail
   go_roundw
   case rel=>exact ⟨k+1,by omega,by go_num,HZ⟩
   case measure=>simp [intOf];omega
 obtain rfl:k=Ls.length:=by omega
 rw [List.take_length] at hown
 have HZ:=zH (And.intro hown hb)
 clear hown hb HI
 go_wp2_with fail
 go_ret
 exact ⟨⟨_,rfl,HZ.out.1⟩,HZ.out.2⟩
end Go.Proofs.YtadjpadieljjlaaGreat
namespace Go.Proofs.YtadjpadieljjlaaGreat
open Go.RowKit
theorem oRel_any (r:Int) (w:World):Calls Tryz.prog 61 #[.int .i64 r] w fun e w'=>e=.returned (.bool (r == 1 || r == 2 || r == 3))∧w'=w:=by
 go_enter Tryz.func61,Tryz.ntmps61
 go_wp2_with fail
 all_goals
  go_ret
  exact ⟨ret_bool (by simp_all),rfl⟩
end Go.Proofs.YtadjpadieljjlaaGreat
namespace Go.Proofs.YtadjpadieljjlaaGreat
open Go.RowKit
theorem oCount_any (m:Nat) (hmm:m≤1000000):∀ (o:Lfc.Ord) (v:Value) (lim:Int) (w:World),o.size≤m→0≤lim→lim≤1000→OrdV w o v →
  Calls Tryz.prog 84 #[v,.int .i64 lim] w fun e w'=>e=.returned (.int .i64 (o.cnt lim))∧Below w.heap.size w w':=by
 induction m with
 | zero=>intro o v lim w h _ _ _;have:=o.size_pos;omega
 | succ m ih0 =>
  intro o v lim w hm hl0 hl1 hv
  have ih:=ih0 (by omega)
  clear ih0
  obtain ⟨kd,ar,ts⟩:=o
  obtain ⟨A,c,rfl,hc,hA⟩:=hv.open_
  simp only [Lfc.Ord.size] at hm
  have hlen:=Lfc.Ord.sizes_len ts
  have IH:=zH ih
  have HSP:=zH (fun (k:Nat) (h:k<ts.length) (l:Int) (h0:0≤l)=>Lfc.cnt_spec _ ts[k] l (zN _) h0)
  have b0:Below w.heap.size w (w.alloc (.cells #[.int .i64 kd,.int .i64 ar,.slice A ts.length c] 26)):=(zB _ _).alloc (zN _) _
  have HA:=zH hA
  have HR:Hid (Lfc.Ord.cnt (.node kd ar ts) lim=Lfc.Ord.cnts ts lim 1):=zH rfl
  rw [HR.out]
  clear ih hA hv HR
  go_enter Tryz.func84,Tryz.ntmps84
  go_wp2_with fail
  go_loopw [5,11] (fun n i wr=>∃ (k:Nat) (q:Int),k≤ts.length∧i=.int .i64 k∧n=.int .i64 q∧1≤q∧q≤1+(Lfc.Ord.sizes (ts.take k):Int)∧Hid (Lfc.Ord.cnts (ts.drop k) lim q=Lfc.Ord.cnts ts lim 1)∧Below w.heap.size w wr) (fun _ i _=>ts.length-(intOf i).toNat)
  case atStart=>exact ⟨0,1,by omega,rfl,rfl,by omega,by simp [Lfc.Ord.sizes],zH (by simp),b0⟩
  obtain ⟨k,q,hk,rfl,rfl,hq1,hq2,HC,hbw⟩:=hrel
  have hle:=Lfc.Ord.sizes_take_le ts k
  by_cases hlt:k<ts.length
  ·obtain ⟨b,o,k1,a1,us,B,c1,rfl,hb,ht,d0,d1,d2,hcu,hB,hT⟩:=(HA.out.below hbw).at_ hlt
   have hst:=Lfc.Ord.sizes_take ts k hlt
   have hmem:=Lfc.Ord.sizes_mem ts ts[k] (List.getElem_mem _)
   have HD:Hid (Lfc.Ord.cnts (ts[k] :: ts.drop (k+1)) lim q=Lfc.Ord.cnts ts lim 1):=zH (by rw [←List.drop_eq_getElem_cons hlt];exact HC.out)
   have b1:Below wr.heap.size wr (wr.alloc (.cells #[.int .i64 k1,.int .i64 a1,.slice B us.length c1] 26)):=(zB _ _).alloc (zN _) _
   have hT2:=hT.below b1
   have HB1:=zH b1
   clear hB ht
   by_cases hlim:lim<q
   ·have HRES:Hid (Lfc.Ord.cnts ts lim 1=q):=zH (by rw [←HD.out,Lfc.Ord.cnts,if_pos hlim])
    have hd1:decide (q>lim)=true:=by simpa using hlim
    have hd2:decide (lim<q)=true:=by simpa using hlim
    go_wp2_with fail
    go_ret
    exact ⟨ret_int HRES.out.symm,hbw.trans (HB1.out.mono hbw.size)⟩
   have hd1:decide (q>lim)=false:=by simp;omega
   have hd2:decide (lim<q)=false:=by simp;omega
   obtain ⟨e1,e2,_,_⟩:=HSP.out k hlt (lim-q) (by omega)
   have HD2:Hid (Lfc.Ord.cnts (ts.drop (k+1)) lim (q+Lfc.Ord.cnt ts[k] (lim-q))=Lfc.Ord.cnts ts lim 1):=zH (by rw [←HD.out,Lfc.Ord.cnts,if_neg hlim])
   have hw1:IntKind.i64.wrap (lim-q)=lim-q:=IntWalk.i64_in _ (by omega)
   have CALL:=zH (IH.out ts[k] _ (lim-q) _ (by omega) (by omega) (by omega) hT2)
   have HST:=zH hst
   generalize hZ:Lfc.Ord.cnt ts[k] (lim-q)=z at *
   generalize Lfc.Ord.sizes (ts.take k)=y at *
   clear hst hZ HD
   go_wp2_with fail
   refine CALL.out.mono ?_
   rintro e w1 ⟨rfl,hb1⟩
   have hq3:q+z≤1+(Lfc.Ord.sizes (ts.take (k+1)):Int):=by have:=HST.out;omega
   have hq4:=Lfc.Ord.sizes_take_le ts (k+1)
   go_wp2_with fail
   go_roundw
   case rel=>exact ⟨k+1,q+z,by omega,by go_num,by go_num,by omega,hq3,HD2,hbw.trans ((HB1.out.trans (hb1.mono HB1.out.size)).mono hbw.size)⟩
   case measure=>simp [intOf];omega
  have HRES:Hid (Lfc.Ord.cnts ts lim 1=q):=zH (by rw [←HC.out,List.drop_eq_nil_of_le (by omega)];rfl)
  go_wp2_with fail
  go_ret
  exact ⟨ret_int HRES.out.symm,hbw⟩
theorem enters_oForm:∀args w,(callFunc 108 args).run Tryz.prog w=.ok (.enter 108 args) w:=enters_of Tryz.func108 (by kernel_rfl) rfl
theorem oFormIndex_any (m:Nat) (ih:∀ (o:Lfc.Ord) (v:Value) (w:World),o.size≤m→OrdV w o v→Calls Tryz.prog 108 #[v] w fun e w'=>e=.returned (.bool (!(o).form))∧Below w.heap.size w w')
  (ts:List Lfc.Ord) (A:Option Addr) (c:Nat) (w:World) (hm:Lfc.Ord.sizes ts≤m) (hmax:ts.length≤1000000) (h:OrdsAt w A ts) :
  Calls Tryz.prog 109 #[.slice A ts.length c,.func (.func 108) #[] #[]] w fun e w'=>∃i:Int,e=.returned (.int .i64 i)∧decide (i≥0)=!Lfc.Ord.forms ts∧Below w.heap.size w w':=by
 have he:=enters_oForm
 have IH:=zH ih
 have HA:=zH h
 have HS:=zH (Lfc.forms_specO ts)
 have HF:=zH (Lfc.forms_falseO ts)
 clear ih h
 generalize Lfc.Ord.forms ts=res at *
 go_enter Tryz.func109,Tryz.ntmps109
 go_wp2_with fail
 go_loopw [8] (fun i wr=>∃k:Nat,k≤ts.length∧i=.int .i64 k∧Below w.heap.size w wr∧Hid (∀j (h:j<ts.length),j<k→(ts[j]).form=true)) (fun i _=>ts.length-(intOf i).toNat)
 case atStart=>exact ⟨0,by omega,rfl,zB _ _,zH fun j _ hj=>by omega⟩
 obtain ⟨k,hk,rfl,hbw,hp⟩:=hrel
 by_cases hlt:k<ts.length
 ·obtain ⟨b,o,k1,a1,xs,B1,c1,rfl,hb,ht,d0,d1,d2,hcu,hB,hT⟩:=(HA.out.below hbw).at_ hlt
  have hmem:=Lfc.Ord.sizes_mem ts ts[k] (List.getElem_mem _)
  clear hB ht
  have hT2:=zH hT
  cases hq:(ts[k]).form
  ·have hres:=HF.out k hlt hq
   subst hres
   have HQ:=zH hq
   clear hq
   go_wp2_with fail
   refine (IH.out ts[k] _ _ (by omega) hT2.out).mono ?_
   rintro e w1 ⟨rfl,hb1⟩
   rw [HQ.out]
   go_wp2_with fail
   go_ret
   exact ⟨k,rfl,by simp,hbw.trans (hb1.mono hbw.size)⟩
  have HQ:=zH hq
  clear hq
  go_wp2_with fail
  refine (IH.out ts[k] _ _ (by omega) hT2.out).mono ?_
  rintro e w1 ⟨rfl,hb1⟩
  rw [HQ.out]
  go_wp2_with fail
  go_roundw
  case rel =>
   refine ⟨k+1,by omega,by go_num,hbw.trans (hb1.mono hbw.size),zH fun j h hj=>?_⟩
   rcases Nat.lt_or_ge j k with h1 | h1
   ·exact hp.out j h h1
   obtain rfl:j=k:=by omega
   exact HQ.out
  case measure=>simp [intOf];omega
 have hres:=HS.out.2 fun j h=>hp.out j h (by omega)
 subst hres
 go_wp2_with fail
 go_ret
 exact ⟨-1,rfl,by decide,hbw⟩
theorem oFormContains_any (m:Nat) (ih:∀ (o:Lfc.Ord) (v:Value) (w:World),o.size≤m→OrdV w o v→Calls Tryz.prog 108 #[v] w fun e w'=>e=.returned (.bool (!(o).form))∧Below w.heap.size w w')
  (ts:List Lfc.Ord) (A:Option Addr) (c:Nat) (w:World) (hm:Lfc.Ord.sizes ts≤m) (hmax:ts.length≤1000000) (h:OrdsAt w A ts) :
  Calls Tryz.prog 87 #[.slice A ts.length c,.func (.func 108) #[] #[]] w fun e w'=>e=.returned (.bool (!Lfc.Ord.forms ts))∧Below w.heap.size w w':=by
 have IH:=zH (oFormIndex_any m ih ts A c w hm hmax h)
 clear ih h
 go_enter Tryz.func87,Tryz.ntmps87
 go_wp2_with fail
 refine IH.out.mono ?_
 rintro e w1 ⟨i,rfl,hi,hb1⟩
 have HI:=zH hi
 clear hi
 go_wp2_with fail
 go_ret
 exact ⟨ret_bool HI.out,hb1⟩
theorem oForm_upto (m:Nat) (hmm:m≤1000000):∀ (o:Lfc.Ord) (v:Value) (w:World),o.size≤m→OrdV w o v →
  Calls Tryz.prog 85 #[v] w fun e w'=>e=.returned (.bool o.form)∧Below w.heap.size w w':=by
 induction m with
 | zero=>intro o v w h _;have:=o.size_pos;omega
 | succ m ih0 =>
  intro o v w hsz hv
  have ih:=ih0 (by omega)
  clear ih0
  have hn:∀ (o:Lfc.Ord) (v:Value) (w:World),o.size≤m→OrdV w o v→Calls Tryz.prog 108 #[v] w fun e w'=>e=.returned (.bool (!o.form))∧Below w.heap.size w w':=by
   intro o v w hm hv
   obtain ⟨kd,ar,ts⟩:=o
   obtain ⟨A,c,rfl,hc,hA⟩:=hv.open_
   have b0:Below w.heap.size w (w.alloc (.cells #[.int .i64 kd,.int .i64 ar,.slice A ts.length c] 26)):=(zB _ _).alloc (zN _) _
   have IH:=zH (ih _ _ _ hm (hv.below b0))
   clear ih hv hA
   generalize (Lfc.Ord.node kd ar ts).form=q at *
   go_enter Tryz.func108,Tryz.ntmps108
   go_wp2_with fail
   refine IH.out.mono ?_
   rintro e w1 ⟨rfl,hb1⟩
   cases q
   all_goals
    go_wp2_with fail
    go_ret
    exact ⟨rfl,b0.trans (hb1.mono b0.size)⟩
  obtain ⟨kd,ar,ts⟩:=o
  obtain ⟨A,c,rfl,hc,hA⟩:=hv.open_
  have hsz':=hsz
  simp only [Lfc.Ord.size] at hsz'
  have hlen:=Lfc.Ord.sizes_len ts
  have hbx:Hid (Below w.heap.size w (w.alloc (.cells #[.int .i64 kd,.int .i64 ar,.slice A ts.length c] 26))):=zH ((zB _ _).alloc (zN _) _)
  have HC:=zH (oFormContains_any m hn ts A c _ (by omega) (by omega) (hA.below hbx.out))
  rw [Lfc.Ord.form]
  clear ih hn hA hv
  by_cases hk1:kd=1
  ·subst hk1
   rw [if_pos rfl]
   by_cases hl0:ts.length=0
   ·have hl1:((ts.length:Int) == 0)=true:=by simp [hl0]
    have HD:Hid (decide (ts.length=0)=true):=zH (decide_eq_true hl0)
    rw [HD.out]
    clear hl0
    go_enter Tryz.func85,Tryz.ntmps85
    go_wp2_with fail
    go_ret
    exact ⟨rfl,hbx.out⟩
   have hl1:((ts.length:Int) == 0)=false:=by rw [beq_eq_false_iff_ne];omega
   have HD:Hid (decide (ts.length=0)=false):=zH (decide_eq_false hl0)
   rw [HD.out]
   clear hl0
   go_enter Tryz.func85,Tryz.ntmps85
   go_wp2_with fail
   go_ret
   exact ⟨rfl,hbx.out⟩
  have hk1f:(kd == 1)=false:=by simpa using hk1
  rw [if_neg hk1]
  by_cases hk2:kd=2∨kd=3
  ·rw [if_pos hk2]
   clear hk1
   by_cases ha0:ar=0
   ·subst ha0
    rw [decide_eq_true rfl,Bool.true_and]
    by_cases hl0:0<ts.length
    ·have hl1:decide ((ts.length:Int)>0)=true:=by rw [decide_eq_true_eq];omega
     have hl2:decide ((0:Int)<(ts.length:Int))=true:=by rw [decide_eq_true_eq];omega
     have HD:Hid (decide (0<ts.length)=true):=zH (decide_eq_true hl0)
     rw [HD.out,Bool.true_and]
     generalize Lfc.Ord.forms ts=q at *
     rcases hk2 with rfl | rfl
     all_goals
      go_enter Tryz.func85,Tryz.ntmps85
      go_wp2_with fail
      refine HC.out.mono ?_
      rintro e w1 ⟨rfl,hb1⟩
      cases q
      all_goals
       go_wp2_with fail
       go_ret
       exact ⟨rfl,hbx.out.trans (hb1.mono hbx.out.size)⟩
    have hl1:decide ((ts.length:Int)>0)=false:=by rw [decide_eq_false_iff_not];omega
    have hl2:decide ((0:Int)<(ts.length:Int))=false:=by rw [decide_eq_false_iff_not];omega
    have HD:Hid (decide (0<ts.length)=false):=zH (decide_eq_false hl0)
    rw [HD.out]
    rcases hk2 with rfl | rfl
    all_goals
     go_enter Tryz.func85,Tryz.ntmps85
     go_wp2_with fail
     go_ret
     exact ⟨rfl,hbx.out⟩
   have ha1:(ar == 0)=false:=by simpa using ha0
   have HD:Hid (decide (ar=0)=false):=zH (decide_eq_false ha0)
   rw [HD.out]
   rcases hk2 with rfl | rfl
   all_goals
    go_enter Tryz.func85,Tryz.ntmps85
    go_wp2_with fail
    go_ret
    exact ⟨by simp,hbx.out⟩
  rw [if_neg hk2]
  have hk2f:(kd == 2)=false:=by simp;omega
  have hk3f:(kd == 3)=false:=by simp;omega
  go_enter Tryz.func85,Tryz.ntmps85
  go_wp2_with fail
  go_ret
  exact ⟨rfl,hbx.out⟩
theorem oSmall_any (o:Lfc.Ord) (v:Value) (w:World) (hsz:o.size≤1000000) (hv:OrdV w o v) :
  Calls Tryz.prog 54 #[v] w fun e w'=>e=.returned (.bool (decide (o.size≤64) && o.form))∧Below w.heap.size w w':=by
 obtain ⟨k1,k2,k3,k4⟩:=Lfc.cnt_spec _ o 64 (zN _) (by omega)
 have HT:Hid (decide (o.cnt 64≤64)=decide (o.size≤64)):=zH (by
  rw [decide_eq_decide]
  constructor
  ·intro h
   rcases Int.lt_or_le 64 (o.size:Int) with h1 | h1
   ·have:=k4 h1;omega
   omega
  intro h
  rw [k3 (by omega)];omega)
 obtain ⟨A,c,kd,ar,ts,hT,rfl,hc,hA⟩:∃A c kd ar ts,o=.node kd ar ts∧v=.agg #[.int .i64 kd,.int .i64 ar,.slice A ts.length c]∧ts.length≤c∧OrdsAt w A ts:=by
  obtain ⟨kd,ar,ts⟩:=o
  obtain ⟨A,c,rfl,hc,hA⟩:=hv.open_
  exact ⟨A,c,kd,ar,ts,rfl,rfl,hc,hA⟩
 obtain ⟨w1,hw1⟩:∃w1,w.alloc (.cells #[.int .i64 kd,.int .i64 ar,.slice A ts.length c] 26)=w1:=⟨_,rfl⟩
 have b01:=zG hw1
 have q1:=zQ hw1
 obtain ⟨y0,y1,y2⟩:=cells3o q1
 have C1:=zH (oCount_any _ hsz o _ 64 w1 (zN _) (by omega) (by omega) (hv.below b01))
 have C2:=zH (fun W (hW:Below w1.heap.size w1 W)=>oForm_upto _ hsz o _ W (zN _) ((hv.below b01).below hW))
 have HQ:=zH q1
 rw [←HT.out]
 clear hT hA hv k2 k3 k4 q1 HT
 generalize o.cnt 64=z at *
 generalize o.form=f at *
 go_enter Tryz.func54,Tryz.ntmps54
 go_wp2_with fail
 refine C1.out.mono ?_
 rintro e w2 ⟨rfl,hb2⟩
 obtain ⟨x0,x1,x2⟩:=cells3o ((hb2.block _ (zL HQ.out)).trans HQ.out)
 cases hz:decide (z≤64)
 ·go_wp2_with fail
  go_ret
  exact ⟨ret_bool (by simp [hz]),b01.trans (hb2.mono b01.size)⟩
 go_wp2_with fail
 refine (C2.out _ hb2).mono ?_
 rintro e w3 ⟨rfl,hb3⟩
 cases f
 all_goals
  go_wp2_with fail
  go_ret
  exact ⟨ret_bool (by simp [hz]),b01.trans ((hb2.trans (hb3.mono hb2.size)).mono b01.size)⟩
def LH (F1 F2:Nat) (lo hi:Int) (w:World):Prop:=(F1<w.heap.size∧w.cell? ⟨F1,0,none⟩=some (.int .i64 lo))∧(F2<w.heap.size∧w.cell? ⟨F2,0,none⟩=some (.int .i64 hi))
theorem LH.below {F1 F2:Nat} {lo hi:Int} {w w':World} (h:LH F1 F2 lo hi w) (hb:Below w.heap.size w w'):LH F1 F2 lo hi w' :=
 ⟨⟨Nat.lt_of_lt_of_le h.1.1 hb.size,(hb.cell (p:=⟨F1,0,none⟩) h.1.1).trans h.1.2⟩,⟨Nat.lt_of_lt_of_le h.2.1 hb.size,(hb.cell (p:=⟨F2,0,none⟩) h.2.1).trans h.2.2⟩⟩
theorem enters_oArgs:∀args w,(callFunc 88 args).run Tryz.prog w=.ok (.enter 88 args) w:=enters_of Tryz.func88 (by kernel_rfl) rfl
theorem oArgsIndex_any (F1 F2:Nat) (lo hi:Int) (m:Nat) (ih:∀ (o:Lfc.Ord) (v:Value) (w:World) (hF:LH F1 F2 lo hi w),o.size≤m→OrdV w o v→Calls Tryz.prog 88 #[v,.pointer (some ⟨F1,0,none⟩),.pointer (some ⟨F2,0,none⟩)] w fun e w'=>e=.returned (.bool (!(o).rng lo hi))∧Below w.heap.size w w')
  (ts:List Lfc.Ord) (A:Option Addr) (c:Nat) (w:World) (hF:LH F1 F2 lo hi w) (hm:Lfc.Ord.sizes ts≤m) (hmax:ts.length≤1000000) (h:OrdsAt w A ts) :
  Calls Tryz.prog 109 #[.slice A ts.length c,.func (.func 88) #[] #[.pointer (some ⟨F1,0,none⟩),.pointer (some ⟨F2,0,none⟩)]] w fun e w'=>∃i:Int,e=.returned (.int .i64 i)∧decide (i≥0)=!Lfc.Ord.rngs lo hi ts∧Below w.heap.size w w':=by
 have he:=enters_oArgs
 have IH:=zH ih
 have HA:=zH h
 have HS:=zH (Lfc.rngs_spec lo hi ts)
 have HF:=zH (Lfc.rngs_false lo hi ts)
 have HLH:=zH hF
 clear hF
 clear ih h
 generalize Lfc.Ord.rngs lo hi ts=res at *
 go_enter Tryz.func109,Tryz.ntmps109
 go_wp2_with fail
 go_loopw [8] (fun i wr=>∃k:Nat,k≤ts.length∧i=.int .i64 k∧Below w.heap.size w wr∧Hid (∀j (h:j<ts.length),j<k→(ts[j]).rng lo hi=true)) (fun i _=>ts.length-(intOf i).toNat)
 case atStart=>exact ⟨0,by omega,rfl,zB _ _,zH fun j _ hj=>by omega⟩
 obtain ⟨k,hk,rfl,hbw,hp⟩:=hrel
 by_cases hlt:k<ts.length
 ·obtain ⟨b,o,k1,a1,xs,B1,c1,rfl,hb,ht,d0,d1,d2,hcu,hB,hT⟩:=(HA.out.below hbw).at_ hlt
  have hmem:=Lfc.Ord.sizes_mem ts ts[k] (List.getElem_mem _)
  clear hB ht
  have hT2:=zH hT
  cases hq:(ts[k]).rng lo hi
  ·have hres:=HF.out k hlt hq
   subst hres
   have HQ:=zH hq
   clear hq
   go_wp2_with fail
   refine (IH.out ts[k] _ _ (HLH.out.below hbw) (by omega) hT2.out).mono ?_
   rintro e w1 ⟨rfl,hb1⟩
   rw [HQ.out]
   go_wp2_with fail
   go_ret
   exact ⟨k,rfl,by simp,hbw.trans (hb1.mono hbw.size)⟩
  have HQ:=zH hq
  clear hq
  go_wp2_with fail
  refine (IH.out ts[k] _ _ (HLH.out.below hbw) (by omega) hT2.out).mono ?_
  rintro e w1 ⟨rfl,hb1⟩
  rw [HQ.out]
  go_wp2_with fail
  go_roundw
  case rel =>
   refine ⟨k+1,by omega,by go_num,hbw.trans (hb1.mono hbw.size),zH fun j h hj=>?_⟩
   rcases Nat.lt_or_ge j k with h1 | h1
   ·exact hp.out j h h1
   obtain rfl:j=k:=by omega
   exact HQ.out
  case measure=>simp [intOf];omega
 have hres:=HS.out.2 fun j h=>hp.out j h (by omega)
 subst hres
 go_wp2_with fail
 go_ret
 exact ⟨-1,rfl,by decide,hbw⟩
theorem oArgsContains_any (F1 F2:Nat) (lo hi:Int) (m:Nat) (ih:∀ (o:Lfc.Ord) (v:Value) (w:World) (hF:LH F1 F2 lo hi w),o.size≤m→OrdV w o v→Calls Tryz.prog 88 #[v,.pointer (some ⟨F1,0,none⟩),.pointer (some ⟨F2,0,none⟩)] w fun e w'=>e=.returned (.bool (!(o).rng lo hi))∧Below w.heap.size w w')
  (ts:List Lfc.Ord) (A:Option Addr) (c:Nat) (w:World) (hF:LH F1 F2 lo hi w) (hm:Lfc.Ord.sizes ts≤m) (hmax:ts.length≤1000000) (h:OrdsAt w A ts) :
  Calls Tryz.prog 87 #[.slice A ts.length c,.func (.func 88) #[] #[.pointer (some ⟨F1,0,none⟩),.pointer (some ⟨F2,0,none⟩)]] w fun e w'=>e=.returned (.bool (!Lfc.Ord.rngs lo hi ts))∧Below w.heap.size w w':=by
 have IH:=zH (oArgsIndex_any F1 F2 lo hi m ih ts A c w hF hm hmax h)
 clear ih h
 go_enter Tryz.func87,Tryz.ntmps87
 go_wp2_with fail
 refine IH.out.mono ?_
 rintro e w1 ⟨i,rfl,hi,hb1⟩
 have HI:=zH hi
 clear hi
 go_wp2_with fail
 go_ret
 exact ⟨ret_bool HI.out,hb1⟩
theorem oArgs_upto (lo hi:Int) (m:Nat) (hmm:m≤1000000):∀ (o:Lfc.Ord) (v:Value) (w:World),o.size≤m→OrdV w o v →
  Calls Tryz.prog 56 #[v,.int .i64 lo,.int .i64 hi] w fun e w'=>e=.returned (.bool (o.rng lo hi))∧Below w.heap.size w w':=by
 induction m with
 | zero=>intro o v w h _;have:=o.size_pos;omega
 | succ m ih0 =>
  intro o v w hsz hv
  have ih:=ih0 (by omega)
  clear ih0
  have hn:∀ (F1 F2:Nat) (o:Lfc.Ord) (v:Value) (w:World) (hF:LH F1 F2 lo hi w),o.size≤m→OrdV w o v→Calls Tryz.prog 88 #[v,.pointer (some ⟨F1,0,none⟩),.pointer (some ⟨F2,0,none⟩)] w fun e w'=>e=.returned (.bool (!o.rng lo hi))∧Below w.heap.size w w':=by
   intro F1 F2 o v w hF hm hv
   obtain ⟨kd,ar,ts⟩:=o
   obtain ⟨A,c,rfl,hc,hA⟩:=hv.open_
   have b0:Below w.heap.size w (w.alloc (.cells #[.int .i64 kd,.int .i64 ar,.slice A ts.length c] 26)):=(zB _ _).alloc (zN _) _
   have IH:=zH (ih _ _ _ hm (hv.below b0))
   have x1:=(hF.below b0).1.2
   have x2:=(hF.below b0).2.2
   clear ih hv hA hF
   generalize (Lfc.Ord.node kd ar ts).rng lo hi=q at *
   go_enter Tryz.func88,Tryz.ntmps88
   go_wp2_with fail
   refine IH.out.mono ?_
   rintro e w1 ⟨rfl,hb1⟩
   cases q
   all_goals
    go_wp2_with fail
    go_ret
    exact ⟨rfl,b0.trans (hb1.mono b0.size)⟩
  obtain ⟨kd,ar,ts⟩:=o
  obtain ⟨A,c,rfl,hc,hA⟩:=hv.open_
  have hsz':=hsz
  simp only [Lfc.Ord.size] at hsz'
  have hlen:=Lfc.Ord.sizes_len ts
  obtain ⟨wc,hwc⟩:∃wc,((w.alloc (.cells #[.int .i64 kd,.int .i64 ar,.slice A ts.length c] 26)).alloc (.cells #[.int .i64 lo] 3)).alloc (.cells #[.int .i64 hi] 3)=wc:=⟨_,rfl⟩
  have bc:Below w.heap.size w wc:=by rw [←hwc];exact (((zB _ _).alloc (zN _) _).alloc (by simp) _).alloc (by simp <;> omega) _
  have hLH:LH (w.heap.size+1) (w.heap.size+2) lo hi wc:=by
   rw [←hwc]
   refine ⟨⟨by simp,?_⟩,⟨by simp,?_⟩⟩
   ·have h:=zW (w.alloc (.cells #[.int .i64 kd,.int .i64 ar,.slice A ts.length c] 26)) (.cells #[.int .i64 lo] 3)
    rw [World.size_alloc] at h
    exact zC ((zA _ _ _ (by simp)).trans h) 0
   have h:=zW ((w.alloc (.cells #[.int .i64 kd,.int .i64 ar,.slice A ts.length c] 26)).alloc (.cells #[.int .i64 lo] 3)) (.cells #[.int .i64 hi] 3)
   rw [World.size_alloc,World.size_alloc] at h
   exact zC h 0
  have hbx:wc.heap[w.heap.size]?=some (.cells #[.int .i64 kd,.int .i64 ar,.slice A ts.length c] 26 (0,0)):=by
   rw [←hwc]
   exact (zA _ _ _ (by simp <;> omega)).trans ((zA _ _ _ (by simp)).trans (zW w _))
  obtain ⟨y0,y1,y2⟩:=cells3o hbx
  have z1:=hLH.1.2
  have z2:=hLH.2.2
  have HC:=zH (oArgsContains_any (w.heap.size+1) (w.heap.size+2) lo hi m (hn _ _) ts A c wc hLH (by omega) (by omega) (hA.below bc))
  have HB:=zH bc
  have HWC:=zH hwc
  rw [Lfc.Ord.rng]
  clear ih hn hA hv bc hLH hbx hwc
  by_cases hk1:kd=1
  ·subst hk1
   rw [if_pos rfl]
   go_enter Tryz.func56,Tryz.ntmps56
   go_upto_region 1 with fail
   rw [HWC.out]
   cases h1:decide (lo≤ar)
   ·have h1':decide (ar≥lo)=false:=h1
    go_wp2_with fail
    go_ret
    exact ⟨ret_bool (by rw [h1];rfl),HB.out⟩
   have h1':decide (ar≥lo)=true:=h1
   cases h2:decide (ar≤hi)
   all_goals
    go_wp2_with fail
    go_ret
    exact ⟨ret_bool (by rw [h1,h2];rfl),HB.out⟩
  have hk1f:(kd == 1)=false:=by simpa using hk1
  rw [if_neg hk1]
  generalize Lfc.Ord.rngs lo hi ts=q at *
  go_enter Tryz.func56,Tryz.ntmps56
  go_upto_region 1 with fail
  rw [HWC.out]
  go_wp2_with fail
  refine HC.out.mono ?_
  rintro e w1 ⟨rfl,hb1⟩
  cases q
  all_goals
   go_wp2_with fail
   go_ret
   exact ⟨rfl,HB.out.trans (hb1.mono HB.out.size)⟩
end Go.Proofs.YtadjpadieljjlaaGreat
namespace Go.Proofs.YtadjpadieljjlaaGreat
open Go.RowKit
theorem enters_shape:∀args w,(callFunc 34 args).run Tryz.prog w=.ok (.enter 34 args) w:=enters_of Tryz.func34 (by kernel_rfl) rfl
def ShpUpto (m:Nat):Prop:=∀ (t u:Lfc.Ord) (v v':Value) (w:World),t.size≤m→OrdV w t v→OrdV w u v' →
  Calls Tryz.prog 34 #[v,v'] w fun e w'=>e=.returned (.bool (Lfc.Ord.shp t u))∧Below w.heap.size w w'
theorem oEqual_any (m:Nat) (ih:ShpUpto m) (ts us:List Lfc.Ord) (A A':Option Addr) (c c':Nat) (w:World) (hm:Lfc.Ord.sizes ts≤m) (hmax:ts.length≤1000000) (h:OrdsAt w A ts) (h':OrdsAt w A' us) :
  Calls Tryz.prog 58 #[.slice A ts.length c,.slice A' us.length c',.func (.func 34) #[] #[]] w fun e w'=>e=.returned (.bool (Lfc.Ord.shps ts us))∧Below w.heap.size w w':=by
 have he:=enters_shape
 have IH:=zH ih
 have HA:=zH h
 have HA':=zH h'
 clear ih h h'
 by_cases hl:ts.length=us.length
 ·have HS:=zH (Lfc.shps_spec ts us)
  have HF:=zH (Lfc.shps_false ts us)
  have HL:=zH hl
  generalize Lfc.Ord.shps ts us=res at *
  rw [←hl]
  clear hl
  go_enter Tryz.func58,Tryz.ntmps58
  go_wp2_with fail
  go_loopw [17] (fun i wr=>∃k:Nat,k≤ts.length∧i=.int .i64 k∧Below w.heap.size w wr∧Hid (∀j (h:j<ts.length) (h':j<us.length),j<k→Lfc.Ord.shp ts[j] us[j]=true)) (fun i _=>ts.length-(intOf i).toNat)
  case atStart=>exact ⟨0,by omega,rfl,zB _ _,zH fun j _ _ hj=>by omega⟩
  obtain ⟨k,hk,rfl,hbw,hp⟩:=hrel
  by_cases hlt:k<ts.length
  ·have hlt':k<us.length:=by have:=HL.out;omega
   obtain ⟨b,o,k1,n1,xs,B,c1,rfl,hb,ht,d0,d1,d2,hcu,hB,hT⟩:=(HA.out.below hbw).at_ hlt
   obtain ⟨b',o',k2,n2,ys,B',c2,rfl,hb',ht',e0,e1,e2,hcu',hB',hT'⟩:=(HA'.out.below hbw).at_ hlt'
   have hmem:=Lfc.Ord.sizes_mem ts ts[k] (List.getElem_mem _)
   clear hB hB' ht ht'
   have b1:Below wr.heap.size wr ((wr.alloc (.cells #[.int .i64 k1,.int .i64 n1,.slice B xs.length c1] 26)).alloc (.cells #[.int .i64 k2,.int .i64 n2,.slice B' ys.length c2] 26)):=((zB _ _).alloc (zN _) _).alloc (by simp) _
   have hT2:=hT.below b1
   have hT2':=hT'.below b1
   cases hq:Lfc.Ord.shp ts[k] us[k]
   ·have hres:=HF.out k hlt hlt' hq
    subst hres
    have HQ:=zH hq
    clear hq
    go_wp2_with fail
    refine (IH.out ts[k] us[k] _ _ _ (by omega) hT2 hT2').mono ?_
    rintro e w1 ⟨rfl,hb1⟩
    rw [HQ.out]
    go_wp2_with fail
    go_ret
    exact ⟨rfl,hbw.trans ((b1.mono hbw.size).trans (hb1.mono (Nat.le_trans hbw.size b1.size)))⟩
   have HQ:=zH hq
   clear hq
   go_wp2_with fail
   refine (IH.out ts[k] us[k] _ _ _ (by omega) hT2 hT2').mono ?_
   rintro e w1 ⟨rfl,hb1⟩
   rw [HQ.out]
   go_wp2_with fail
   go_roundw
   case rel =>
    refine ⟨k+1,by omega,by go_num,hbw.trans ((b1.mono hbw.size).trans (hb1.mono (Nat.le_trans hbw.size b1.size))),zH fun j h h' hj=>?_⟩
    rcases Nat.lt_or_ge j k with h1 | h1
    ·exact hp.out j h h' h1
    obtain rfl:j=k:=by omega
    exact HQ.out
   case measure=>simp [intOf];omega
  have hres:=HS.out.2 ⟨HL.out,fun j h h'=>hp.out j h h' (by omega)⟩
  subst hres
  go_wp2_with fail
  go_ret
  exact ⟨rfl,hbw⟩
 rw [Lfc.shps_len ts us hl]
 have hne:((ts.length:Int) != (us.length:Int))=true:=by simp;omega
 clear hl
 go_enter Tryz.func58,Tryz.ntmps58
 go_wp2_with fail
 go_ret
 exact ⟨rfl,zB _ _⟩
theorem oShape_upto (m:Nat) (hmm:m≤1000000):∀ (t u:Lfc.Ord) (v v':Value) (w:World),t.size≤m→OrdV w t v→OrdV w u v' →
  Calls Tryz.prog 34 #[v,v'] w fun e w'=>e=.returned (.bool (Lfc.Ord.shp t u))∧Below w.heap.size w w':=by
 induction m with
 | zero=>intro t u v v' w h _ _;have:=t.size_pos;omega
 | succ m ih0 =>
  intro t u v v' w hsz hv hv'
  have ih:=ih0 (by omega)
  clear ih0
  obtain ⟨kd,ar,ts⟩:=t
  obtain ⟨kd',ar',us⟩:=u
  obtain ⟨A,c,rfl,hc,hA⟩:=hv.open_
  obtain ⟨A',c',rfl,hc',hA'⟩:=hv'.open_
  simp only [Lfc.Ord.size] at hsz
  have hlen:=Lfc.Ord.sizes_len ts
  have hlen':=Lfc.Ord.sizes_len us
  obtain ⟨wa,hwa⟩:∃wa,w.alloc (.cells #[.int .i64 kd,.int .i64 ar,.slice A ts.length c] 26)=wa:=⟨_,rfl⟩
  obtain ⟨wb,hwb⟩:∃wb,wa.alloc (.cells #[.int .i64 kd',.int .i64 ar',.slice A' us.length c'] 26)=wb:=⟨_,rfl⟩
  have ba:=zG hwa
  have bab:=zG hwb
  have qa:=zQ hwa
  have qb:=zQ hwb
  have sa:=zL qa
  have sb:=zL qb
  have qab:=(bab.block _ sa).trans qa
  have bb:Below w.heap.size w wb:=ba.trans (bab.mono (by omega))
  have HA:=zH (hA.below bb)
  have HA':=zH (hA'.below bb)
  have QA:=zH qab
  have QB:=zH qb
  have HB:=zH bb
  have IH:=zH ih
  obtain ⟨y0,y1,y2⟩:=cells3o qab
  obtain ⟨z0,z1,z2⟩:=cells3o qb
  clear ih hv hv' hA hA' ba bab qa qb qab bb
  rw [Lfc.Ord.shp]
  have HE:=zH (oEqual_any m IH.out ts us A A' c c' wb (by omega) (by omega) HA.out HA'.out)
  by_cases hk:kd=kd'
  ·rw [decide_eq_true hk,Bool.true_and]
   have hk2:(kd == kd')=true:=by simpa using hk
   subst hk
   generalize Lfc.Ord.shps ts us=q at *
   go_enter Tryz.func34,Tryz.ntmps34
   go_wp2_with fail
   refine HE.out.mono ?_
   rintro e w1 ⟨rfl,hb1⟩
   cases q
   all_goals
    go_wp2_with fail
    go_ret
    exact ⟨rfl,HB.out.trans (hb1.mono HB.out.size)⟩
  have hk2:(kd == kd')=false:=by simpa using hk
  have HD:Hid (decide (kd=kd')=false):=zH (decide_eq_false hk)
  rw [HD.out]
  go_enter Tryz.func34,Tryz.ntmps34
  go_wp2_with fail
  go_ret
  exact ⟨by simp,HB.out⟩
end Go.Proofs.YtadjpadieljjlaaGreat
namespace Go.Proofs.YtadjpadieljjlaaGreat
open Go.RowKit
theorem oValid_any (o:Lfc.Ord) (v:Value) (n:Int) (w:World) (hsz:o.size≤1000000) (hn0:-1000≤n) (hn1:n≤1000) (hv:OrdV w o v) :
  Calls Tryz.prog 33 #[v,.int .i64 n] w fun e w'=>e=.returned (.int .i64 (o.vld n))∧Below w.heap.size w w':=by
 obtain ⟨A,c,kd,ar,ts,hT,rfl,hc,hA⟩:∃A c kd ar ts,o=.node kd ar ts∧v=.agg #[.int .i64 kd,.int .i64 ar,.slice A ts.length c]∧ts.length≤c∧OrdsAt w A ts:=by
  obtain ⟨kd,ar,ts⟩:=o
  obtain ⟨A,c,rfl,hc,hA⟩:=hv.open_
  exact ⟨A,c,kd,ar,ts,rfl,rfl,hc,hA⟩
 obtain ⟨w1,hw1⟩:∃w1,w.alloc (.cells #[.int .i64 kd,.int .i64 ar,.slice A ts.length c] 26)=w1:=⟨_,rfl⟩
 have b01:=zG hw1
 have q1:=zQ hw1
 obtain ⟨y0,y1,y2⟩:=cells3o q1
 have C1:=zH (oSmall_any o _ w1 hsz (hv.below b01))
 have C2:=zH (fun W (hW:Below w1.heap.size w1 W)=>oArgs_upto 0 (n-1) _ hsz o _ W (zN _) ((hv.below b01).below hW))
 have HQ:=zH q1
 have HR:Hid (o.vld n=if 64<o.size∨o.form=false then 92 else if o.rng 0 (n-1)=false then 5 else 0):=zH rfl
 have hw2:IntKind.i64.wrap (n-1)=n-1:=IntWalk.i64_in _ (by omega)
 have s01:=b01.size
 rw [HR.out]
 have HSM:Hid ((64<o.size∨o.form=false)↔(decide (o.size≤64) && o.form)=false):=zH (by
  rw [Bool.and_eq_false_iff,decide_eq_false_iff_not]
  constructor
  ·rintro (h | h)
   ·exact .inl (by omega)
   exact .inr h
  rintro (h | h)
  ·exact .inl (by omega)
  exact .inr h)
 clear hT hA hv q1 HR
 generalize (decide (o.size≤64) && o.form)=f at *
 cases f
 ·have HS2:=zH (HSM.out.2 rfl)
  rw [if_pos HS2.out]
  clear HSM
  go_enter Tryz.func33,Tryz.ntmps33
  go_wp2_with fail
  refine C1.out.mono ?_
  rintro e w2 ⟨rfl,hb2⟩
  go_wp2_with fail
  go_ret
  exact ⟨rfl,b01.trans (hb2.mono s01)⟩
 have HS2:Hid (¬ (64<o.size∨o.form=false)):=zH (fun h=>by have:=HSM.out.1 h;cases this)
 rw [if_neg HS2.out]
 clear HSM
 generalize o.rng 0 (n-1)=r at *
 go_enter Tryz.func33,Tryz.ntmps33
 go_wp2_with fail
 refine C1.out.mono ?_
 rintro e w2 ⟨rfl,hb2⟩
 obtain ⟨x0,x1,x2⟩:=cells3o ((hb2.block _ (zL HQ.out)).trans HQ.out)
 go_wp2_with fail
 refine (C2.out _ hb2).mono ?_
 rintro e w3 ⟨rfl,hb3⟩
 cases r
 all_goals
  go_wp2_with fail
  go_ret
  exact ⟨by simp,b01.trans ((hb2.trans (hb3.mono hb2.size)).mono s01)⟩
end Go.Proofs.YtadjpadieljjlaaGreat
namespace Lfc
def firstE:List Raw→Int
 | []=>0
 | t :: r=>if t.twf=0 then firstE r else t.twf
def allO:List Raw→Bool
 | []=>true
 | t :: r=>t.isO && allO r
theorem firstE_drop {l:List Raw} {k:Nat} (h:k<l.length):firstE (l.drop k)=if l[k].twf=0 then firstE (l.drop (k+1)) else l[k].twf:=by
 rw [List.drop_eq_getElem_cons h,firstE]
theorem allO_drop {l:List Raw} {k:Nat} (h:k<l.length):allO (l.drop k)=(l[k].isO && allO (l.drop (k+1))):=by
 rw [List.drop_eq_getElem_cons h,allO]
def chkE (l:List Raw):Int:=if firstE l=0 then (if allO l then 0 else 32) else firstE l
end Lfc
namespace Go.Proofs.YtadjpadieljjlaaGreat
open Go.RowKit
theorem RowP.cell1 {q:Nat→Prop} {w:World}:∀ {ts:List Lfc.Raw} {xs:List Value},RowP q w ts xs→∀u∈xs,u.oneCell'=true
 | [],xs,h,u,hu=>by rw [RowP] at h;subst h;cases hu
 | t :: r,xs,h,u,hu=>by
  rw [RowP] at h
  obtain ⟨v0,v1,v2,v3,ys,rfl,ht,hr⟩:=h
  obtain ⟨k,n,p,ts⟩:=t
  rw [TreeP] at ht
  obtain ⟨rfl,rfl,_,rfl,A,c,rfl,_⟩:=ht
  simp only [List.mem_cons] at hu
  rcases hu with rfl | rfl | rfl | rfl | hu
  ·rfl
  ·rfl
  ·rfl
  ·rfl
  exact hr.cell1 u hu
theorem addr_add0 (b o j:Nat):(⟨b,o,none⟩:Addr).add j=⟨b,o+j,none⟩:=by unfold Addr.add;split <;> simp_all
theorem treesAt_part {w:World} {A:Option Addr} {ts:List Lfc.Raw} (h:TreesAt w A ts):∃xs,xs.length=ts.length*4∧RowP (fun b=>b<w.heap.size) w ts xs∧(∀a,A=some a→∀j u,xs[j]?=some u→w.cell? (a.add j)=some u)∧(∀u∈xs,u.oneCell'=true):=by
 by_cases h0:ts=[]
 ·subst h0
  exact ⟨[],rfl,by rw [RowP],fun _ _ j u hj=>by simp at hj,fun u hu=>by cases hu⟩
 obtain ⟨b,o,rfl,hb,hts⟩:=h h0
 obtain ⟨xs,hx,hc⟩:=(TreesO.toP (q:=fun b=>b<w.heap.size) (fun _ h=>h) ts b o hts).row
 refine ⟨xs,by rw [hx.len];omega,hx,fun a ha j u hj=>?_,hx.cell1⟩
 cases ha
 rw [addr_add0]
 exact hc j u hj
theorem treesAt_own {q:Nat→Prop} {w:World} {base:Nat} {v:Value} {n:Nat} {xs:List Value} {ts:List Lfc.Raw} (h:w.ownsRow base 51 4 v n xs) (hr:RowP q w ts xs):∃A c,v=.slice A ts.length c∧TreesAt w A ts:=by
 have hl:=hr.len
 have hn:n=ts.length:=by have:=h.1;omega
 subst hn
 rcases h.2 with ⟨rfl,h0⟩ | ⟨g,cap,cur,rfl,hb,hg,_⟩
 ·have:ts=[]:=List.length_eq_zero_iff.1 h0
  subst this
  exact ⟨none,0,rfl,fun h=>absurd rfl h⟩
 refine ⟨some ⟨g,0,none⟩,cap,rfl,fun _=>⟨g,0,rfl,zL hg,?_⟩⟩
 exact TreesP.toC ts g 0 (hr.lie (own_cells h))
theorem idxFact_nil (fv:Value) (w:World):Calls Tryz.prog 92 #[.slice none 0 0,fv] w fun e w'=>e=.returned (.int .i64 (-1))∧w'=w:=by
 go_enter Tryz.func92,Tryz.ntmps92
 go_wp2_with fail
 go_loopw [8] (fun i wr=>i=.int .i64 0∧wr=w) (fun i _=>0)
 case atStart=>exact ⟨rfl,by simp⟩
 obtain ⟨rfl,hwx⟩:=hrel
 subst hwx
 go_wp2_with fail
 go_ret
 exact ⟨rfl,rfl⟩
theorem conFact_nil (fv:Value) (w:World):Calls Tryz.prog 62 #[.slice none 0 0,fv] w fun e w'=>e=.returned (.bool false)∧w'=w:=by
 have C:=zH (idxFact_nil fv w)
 go_enter Tryz.func62,Tryz.ntmps62
 go_wp2_with fail
 refine C.out.mono ?_
 rintro e w2 ⟨rfl,rfl⟩
 go_wp2_with fail
 go_ret
 exact ⟨rfl,rfl⟩
theorem oCheck0_any (o p:Lfc.Ord) (vo vp:Value) (ts us:List Lfc.Raw) (L R:Option Addr) (cl cr:Nat) (w:World) (hos:o.size≤1000000) (hps:p.size≤1000000) (hvo:OrdV w o vo) (hvp:OrdV w p vp) (ho:o.vld ts.length=0) (hp:p.vld us.length=0) (hsh:Lfc.Ord.shp o p=true)
  (hn:ts.length≤1000) (hm:us.length≤1000) (hst:∀t∈ts++us,t.size≤1000000) (hL:L=none→ts.length=0∧cl=0) (hR:R=none→us.length=0∧cr=0) (hts:TreesAt w L ts) (hus:TreesAt w R us) :
  Calls Tryz.prog 35 #[.slice none 0 0,.int .i64 1,vo,.slice L ts.length cl,vp,.slice R us.length cr] w fun e w'=>e=.returned (.int .i64 (Lfc.chkE (ts++us)))∧Below w.heap.size w w':=by
 have HVO:=zH hvo
 have HVP:=zH hvp
 obtain ⟨A1,c1,k1,a1,l1,rfl⟩:∃A c kd ar n,vo=.agg #[.int .i64 kd,.int .i64 ar,.slice A n c]:=by
  obtain ⟨kd,ar,ts⟩:=o
  obtain ⟨A,c,rfl,hc,hA⟩:=hvo.open_
  exact ⟨A,c,kd,ar,_,rfl⟩
 obtain ⟨A2,c2,k2,a2,l2,rfl⟩:∃A c kd ar n,vp=.agg #[.int .i64 kd,.int .i64 ar,.slice A n c]:=by
  obtain ⟨kd,ar,ts⟩:=p
  obtain ⟨A,c,rfl,hc,hA⟩:=hvp.open_
  exact ⟨A,c,kd,ar,_,rfl⟩
 obtain ⟨xs1,hx1,hr1,hc1,ho1⟩:=treesAt_part hts
 obtain ⟨xs2,hx2,hr2,hc2,ho2⟩:=treesAt_part hus
 obtain ⟨all,hall⟩:∃all,ts++us=all:=⟨_,rfl⟩
 obtain ⟨n,hnn⟩:∃n,ts.length=n:=⟨_,rfl⟩
 obtain ⟨m,hmm⟩:∃m,us.length=m:=⟨_,rfl⟩
 have hlen:all.length=n+m:=by rw [←hall,List.length_append,hnn,hmm]
 rw [hnn] at ho hn hL hx1 ⊢
 rw [hmm] at hp hm hR hx2 ⊢
 obtain ⟨w1,hw1⟩:∃w1,w.alloc (.cells #[.int .i64 k1,.int .i64 a1,.slice A1 l1 c1] 26)=w1:=⟨_,rfl⟩
 obtain ⟨w2,hw2⟩:∃w2,w1.alloc (.cells #[.int .i64 k2,.int .i64 a2,.slice A2 l2 c2] 26)=w2:=⟨_,rfl⟩
 obtain ⟨w3,hw3⟩:∃w3,w2.alloc (.cells #[.slice none 0 0,.slice L n cl,.slice R m cr] 27)=w3:=⟨_,rfl⟩
 have b1:=zG hw1
 have b2:=zG hw2
 have b3:=zG hw3
 have q1:=zQ hw1
 have q2:=zQ hw2
 have q3:=zQ hw3
 have e1:=zL q1
 have e2:=zL q2
 have e3:=zL q3
 have b03:Below w.heap.size w w3:=(b1.trans (b2.mono (by omega))).trans (b3.mono (by omega))
 have Q1:=zH ((b3.block _ (by omega)).trans ((b2.block _ e1).trans q1))
 have Q2:=zH ((b3.block _ e2).trans q2)
 have s03:w.heap.size≤w3.heap.size:=by omega
 have hPO:PartsO w3 w2.heap.size 0 [⟨none,0,0,[]⟩,⟨L,n,cl,xs1⟩,⟨R,m,cr,xs2⟩]:=by
  intro k hk
  have hk3:k<3:=hk
  have hk':k=0∨k=1∨k=2:=by omega
  rcases hk' with rfl | rfl | rfl
  ·exact ⟨zC q3 0,rfl,fun _=>⟨rfl,rfl⟩,(fun a h=>by cases h),(fun u h=>by cases h)⟩
  ·exact ⟨zC q3 1,hx1,hL,fun a ha j u hj=>(b03.cell (World.block_lt_of_cell? w _ (hc1 a ha j u hj))).trans (hc1 a ha j u hj),ho1⟩
  exact ⟨zC q3 2,hx2,hR,fun a ha j u hj=>(b03.cell (World.block_lt_of_cell? w _ (hc2 a ha j u hj))).trans (hc2 a ha j u hj),ho2⟩
 have CC:=zH (concatT_any w2.heap.size 0 3 _ w3 (by simp) (by simp [partsN];omega) hPO)
 have HRW:Hid (∀w4 v,w4.ownsRow w3.heap.size 51 4 v (partsN [⟨none,0,0,[]⟩,⟨L,n,cl,xs1⟩,⟨R,m,cr,xs2⟩]) (partsX [⟨none,0,0,[]⟩,⟨L,n,cl,xs1⟩,⟨R,m,cr,xs2⟩])→Below w3.heap.size w3 w4→∃A c,v=.slice A all.length c∧TreesAt w4 A all):=zH (fun w4 v ho hb=>by
  have hb0:=b03.trans (hb.mono s03)
  refine treesAt_own (q:=fun b=>b<w.heap.size) (xs:=xs1++xs2) (by simpa [partsX] using ho) ?_
  rw [←hall]
  exact RowP.append (RowP.keep (fun b hb1 hb2=>hb0.block b hb2) hb0.size (fun _ _ h=>h) hr2) (RowP.keep (fun b hb1 hb2=>hb0.block b hb2) hb0.size (fun _ _ h=>h) hr1))
 have HST:Hid (∀k (h:k<all.length),all[k].size≤1000000):=zH (fun k h=>hst _ (by rw [hall];exact List.getElem_mem h))
 have CV1:Hid (∀W,Below w3.heap.size w3 W→Calls Tryz.prog 33 #[.agg #[.int .i64 k1,.int .i64 a1,.slice A1 l1 c1],.int .i64 (n:Int)] W fun e w'=>e=.returned (.int .i64 0)∧Below W.heap.size W w'):=zH (fun W hW=>by
  have:=oValid_any o _ (n:Int) W hos (by omega) (by omega) (HVO.out.below (b03.trans (hW.mono s03)))
  rwa [ho] at this)
 have CV2:Hid (∀W,Below w3.heap.size w3 W→Calls Tryz.prog 33 #[.agg #[.int .i64 k2,.int .i64 a2,.slice A2 l2 c2],.int .i64 (m:Int)] W fun e w'=>e=.returned (.int .i64 0)∧Below W.heap.size W w'):=zH (fun W hW=>by
  have:=oValid_any p _ (m:Int) W hps (by omega) (by omega) (HVP.out.below (b03.trans (hW.mono s03)))
  rwa [hp] at this)
 have CS:Hid (∀W,Below w3.heap.size w3 W→Calls Tryz.prog 34 #[.agg #[.int .i64 k1,.int .i64 a1,.slice A1 l1 c1],.agg #[.int .i64 k2,.int .i64 a2,.slice A2 l2 c2]] W fun e w'=>e=.returned (.bool true)∧Below W.heap.size W w'):=zH (fun W hW=>by
  have:=oShape_upto _ hos o p _ _ W (zN _) (HVO.out.below (b03.trans (hW.mono s03))) (HVP.out.below (b03.trans (hW.mono s03)))
  rwa [hsh] at this)
 have CR:Hid (∀W,Calls Tryz.prog 61 #[.int .i64 1] W fun e w'=>e=.returned (.bool true)∧w'=W):=zH (fun W=>oRel_any 1 W)
 have CF:=zH conFact_nil
 have B03:=zH b03
 have hl2:all.length≤2000:=by omega
 obtain ⟨N,hN⟩:∃N,all.length=N:=⟨_,rfl⟩
 have HRES:Hid ((Lfc.firstE all≠0→Lfc.chkE all=Lfc.firstE all)∧(Lfc.firstE all=0→Lfc.allO all=false→Lfc.chkE all=32)∧(Lfc.firstE all=0→Lfc.allO all=true→Lfc.chkE all=0)):=zH ⟨fun h=>by rw [Lfc.chkE,if_neg h],fun h h2=>by rw [Lfc.chkE,if_pos h,h2];rfl,fun h h2=>by rw [Lfc.chkE,if_pos h,h2];rfl⟩
 rw [hall]
 obtain ⟨res,hres⟩:∃res,Lfc.chkE all=res:=⟨_,rfl⟩
 rw [hres] at HRES ⊢
 clear hvo hvp hx1 hr1 hc1 ho1 hx2 hr2 hc2 ho2 hall hnn hmm hlen ho hp hsh hst hL hR hts hus b1 b2 b3 q1 q2 q3 b03 hPO hres
 have HN:=zH hN
 rw [hN] at hl2
 clear hN
 go_enter Tryz.func35,Tryz.ntmps35
 go_wp2_with fail
 go_loopw [13,25] (fun v i wr=>v=.slice none 0 0∧i=.int .i64 0∧wr=w2) (fun _ i _=>0)
 case atStart=>exact ⟨rfl,rfl,by simp⟩
 obtain ⟨rfl,rfl,hwx⟩:=hrel
 subst hwx
 obtain ⟨wq,hwq⟩:∃wq,wq=wr:=⟨_,rfl⟩
 subst hwq
 go_wp2_with fail
 refine CC.out.mono ?_
 rintro e w4 ⟨⟨v4,rfl,hown⟩,b4⟩
 obtain ⟨A4,c4,rfl,hT4⟩:=HRW.out _ _ hown b4
 rw [HN.out]
 have HT4:=zH hT4
 have B4:=zH b4
 have I0:Hid (Below w4.heap.size w4 w4):=zH (zB _ _)
 clear hown hT4 b4 CC HRW hw1 hw2 hw3
 go_wp2_with fail
 go_loopw [44] (fun i wr=>∃k:Nat,k≤N∧i=.int .i64 (k:Int)∧Hid (Lfc.firstE all=Lfc.firstE (all.drop k))∧Hid (Below w4.heap.size w4 wr)) (fun i _=>N-(intOf i).toNat)
 case atStart=>exact ⟨0,by omega,rfl,zH rfl,I0⟩
 obtain ⟨k,hk,rfl,HF,HB⟩:=hrel
 by_cases hlt:k<N
 ·have hlt2:k<all.length:=by rw [HN.out];exact hlt
  obtain ⟨b,oo,kk,nn,pp,us',B',cc,rfl,hb,ht,d0,d1,d2,d3,hcu,hB,hT⟩:=HT4.out.at_ hlt2
  have hbw:=HB.out
  have f0:=(hbw.cell (p:=⟨b,oo+k*4,none⟩) hb).trans d0
  have f1:=(hbw.cell (p:=⟨b,oo+k*4+1,none⟩) hb).trans d1
  have f2:=(hbw.cell (p:=⟨b,oo+k*4+2,none⟩) hb).trans d2
  have f3:=(hbw.cell (p:=⟨b,oo+k*4+3,none⟩) hb).trans d3
  have hi0:(0:Int)≤(k:Int):=Int.natCast_nonneg _
  have hi1:(k:Int)<(N:Int):=by omega
  obtain ⟨wx,hwx⟩:∃wx,wr.alloc (.cells #[.int .i64 kk,S nn,.int .i64 pp,.slice B' us'.length cc] 51)=wx:=⟨_,rfl⟩
  have bx:=zG hwx
  have qx:=zQ hwx
  obtain ⟨y0,y1,y2,y3⟩:=cells4t qx
  have CW:=zH (tWf_any all[k] _ wx (by have:=HST.out k hlt2;omega) (hT.below (hbw.trans (bx.mono hbw.size))))
  have HB2:=zH (hbw.trans (bx.mono hbw.size))
  have HFD:=zH (HF.out.trans (Lfc.firstE_drop hlt2))
  have HWX:=zH hwx
  obtain ⟨z,hz⟩:∃z,all[k].twf=z:=⟨_,rfl⟩
  rw [hz] at CW HFD
  clear hz qx bx hwx hT hB ht d0 d1 d2 d3 hbw hlt2
  go_upto_region 11 with fail
  rw [HWX.out]
  clear HWX f0 f1 f2 f3
  go_wp2_with fail
  refine CW.out.mono ?_
  rintro e w5 ⟨rfl,b5⟩
  have HB5:=zH (HB2.out.trans (b5.mono HB2.out.size))
  clear b5 CW y0 y1 y2 y3
  by_cases hz0:z=0
  ·have HFE:Hid (Lfc.firstE all=Lfc.firstE (all.drop (k+1))):=zH (by rw [HFD.out,if_pos hz0])
   clear HFD
   subst hz0
   go_wp2_with fail
   go_roundw
   case rel=>exact ⟨k+1,by omega,by go_num,HFE,HB5⟩
   case measure=>simp [intOf];omega
  have HFE:Hid (Lfc.firstE all=z):=zH (by rw [HFD.out,if_neg hz0])
  have hz1:(z == 0)=false:=by simpa using hz0
  have hz2:(z != 0)=true:=by simpa using hz0
  have hz3:decide (z=0)=false:=by simpa using hz0
  have HZ:Hid (Ending.returned (.int .i64 z)=.returned (.int .i64 res)∧Below w.heap.size w w5):=zH ⟨by rw [HRES.out.1 (by rw [HFE.out];exact hz0),HFE.out],B03.out.trans ((B4.out.trans (HB5.out.mono B4.out.size)).mono s03)⟩
  clear HFD hz0
  go_wp2_with fail
  go_ret
  exact HZ.out
 obtain rfl:k=N:=by omega
 have HFE:Hid (Lfc.firstE all=0):=zH (by rw [HF.out,←HN.out,List.drop_length,Lfc.firstE])
 clear HF
 have I0:Hid (Below w4.heap.size w4 wr):=HB
 clear HB
 obtain ⟨wq2,hwq2⟩:∃wq2,wq2=wr:=⟨_,rfl⟩
 subst hwq2
 go_wp2_with fail
 go_loopw [56] (fun i wr=>∃j:Nat,j≤k∧i=.int .i64 (j:Int)∧Hid (Lfc.allO all=Lfc.allO (all.drop j))∧Hid (Below w4.heap.size w4 wr)) (fun i _=>k-(intOf i).toNat)
 case atStart=>exact ⟨0,by omega,rfl,zH rfl,I0⟩
 clear I0
 obtain ⟨j,hj,rfl,HF,HB⟩:=hrel
 by_cases hlt:j<k
 ·have hlt2:j<all.length:=by rw [HN.out];exact hlt
  obtain ⟨b,oo,kk,nn,pp,us',B',cc,rfl,hb,ht,d0,d1,d2,d3,hcu,hB,hT⟩:=HT4.out.at_ hlt2
  have hbw:=HB.out
  have f0:=(hbw.cell (p:=⟨b,oo+j*4,none⟩) hb).trans d0
  have f1:=(hbw.cell (p:=⟨b,oo+j*4+1,none⟩) hb).trans d1
  have f2:=(hbw.cell (p:=⟨b,oo+j*4+2,none⟩) hb).trans d2
  have f3:=(hbw.cell (p:=⟨b,oo+j*4+3,none⟩) hb).trans d3
  have hi0:(0:Int)≤(j:Int):=Int.natCast_nonneg _
  have hi1:(j:Int)<(k:Int):=by omega
  obtain ⟨wx,hwx⟩:∃wx,wr.alloc (.cells #[.int .i64 kk,S nn,.int .i64 pp,.slice B' us'.length cc] 51)=wx:=⟨_,rfl⟩
  have bx:=zG hwx
  have qx:=zQ hwx
  obtain ⟨y0,y1,y2,y3⟩:=cells4t qx
  have CW:=zH (tIsO_any all[j] _ wx (HST.out j hlt2) (hT.below (hbw.trans (bx.mono hbw.size))))
  have HB2:=zH (hbw.trans (bx.mono hbw.size))
  have HFD:=zH (HF.out.trans (Lfc.allO_drop hlt2))
  have HWX:=zH hwx
  obtain ⟨z,hz⟩:∃z,all[j].isO=z:=⟨_,rfl⟩
  rw [hz] at CW HFD
  clear hz qx bx hwx hT hB ht d0 d1 d2 d3 hbw hlt2
  go_upto_region 18 with fail
  rw [HWX.out]
  clear HWX f0 f1 f2 f3
  go_wp2_with fail
  refine CW.out.mono ?_
  rintro e w5 ⟨rfl,b5⟩
  have HB5:=zH (HB2.out.trans (b5.mono HB2.out.size))
  clear b5 CW y0 y1 y2 y3
  cases z
  ·have HZ:Hid (Ending.returned (.int .i64 32)=.returned (.int .i64 res)∧Below w.heap.size w w5):=zH ⟨by rw [HRES.out.2.1 HFE.out (by rw [HFD.out];rfl)],B03.out.trans ((B4.out.trans (HB5.out.mono B4.out.size)).mono s03)⟩
   clear HFD
   go_wp2_with fail
   go_ret
   exact HZ.out
  have HFE2:Hid (Lfc.allO all=Lfc.allO (all.drop (j+1))):=zH (by rw [HFD.out];rfl)
  clear HFD
  go_wp2_with fail
  go_roundw
  case rel=>exact ⟨j+1,by omega,by go_num,HFE2,HB5⟩
  case measure=>simp [intOf];omega
 obtain rfl:j=k:=by omega
 have HAO:Hid (Lfc.allO all=true):=zH (by rw [HF.out,←HN.out,List.drop_length,Lfc.allO])
 have HRZ:Hid (res=0):=zH (HRES.out.2.2 HFE.out HAO.out)
 have b3r:=B4.out.trans (HB.out.mono B4.out.size)
 have HB0:=zH b3r
 obtain ⟨y0,y1,y2⟩:=cells3o ((b3r.block _ (by omega)).trans Q1.out)
 have C1:=zH (CV1.out _ b3r)
 clear HF HB HAO b3r
 go_wp2_with fail
 refine C1.out.mono ?_
 rintro e w6 ⟨rfl,b6⟩
 have b36:=HB0.out.trans (b6.mono HB0.out.size)
 have HB6:=zH b36
 obtain ⟨z0,z1,z2⟩:=cells3o ((b36.block _ (by omega)).trans Q2.out)
 have C2:=zH (CV2.out _ b36)
 clear b36 b6 C1 y0 y1 y2
 go_wp2_with fail
 refine C2.out.mono ?_
 rintro e w7 ⟨rfl,b7⟩
 have b37:=HB6.out.trans (b7.mono HB6.out.size)
 have HB7:=zH b37
 obtain ⟨y0,y1,y2⟩:=cells3o ((b37.block _ (by omega)).trans Q1.out)
 clear z0 z1 z2
 obtain ⟨z0,z1,z2⟩:=cells3o ((b37.block _ (by omega)).trans Q2.out)
 have C3:=zH (CS.out _ b37)
 clear b37 b7 C2
 go_wp2_with fail
 refine C3.out.mono ?_
 rintro e w8 ⟨rfl,b8⟩
 have HB8:=zH (HB7.out.trans (b8.mono HB7.out.size))
 clear b8 C3 y0 y1 y2 z0 z1 z2
 go_wp2_with fail
 refine (CR.out _).mono ?_
 rintro e w9 ⟨rfl,rfl⟩
 go_wp2_with fail
 refine (CF.out _ _).mono ?_
 rintro e w9 ⟨rfl,rfl⟩
 have HZ:Hid (Ending.returned (.int .i64 0)=.returned (.int .i64 res)∧Below w.heap.size w w9):=zH ⟨by rw [HRZ.out],B03.out.trans (HB8.out.mono s03)⟩
 go_wp2_with fail
 go_ret
 exact HZ.out
end Go.Proofs.YtadjpadieljjlaaGreat
namespace Go.Proofs.YtadjpadieljjlaaGreat
open Go.RowKit Go.Maps
theorem own_form {w:World} {base:Nat} {e:TypeId} {size n:Nat} {v:Value} {xs:List Value} (h:w.ownsRow base e size v n xs):∃A c,v=.slice A n c∧n≤c:=by
 rcases h.2 with ⟨rfl,rfl⟩ | ⟨g,cap,cur,rfl,_,_,hnc,_⟩
 ·exact ⟨none,0,rfl,zN _⟩
 exact ⟨_,_,rfl,hnc⟩
theorem cloneInts_any (zs:List Int) (A:Option Addr) (c:Nat) (w:World) (hl:zs.length≤10000000) (h:IntsO w A zs) :
  Calls Tryz.prog 94 #[.slice A zs.length c] w fun e w'=>(∃A' c',e=.returned (.slice A' zs.length c')∧zs.length≤c'∧IntsP (fun b=>w.heap.size≤b) w' A' zs)∧Below w.heap.size w w':=by
 have fin:∀e w',(∃v',e=Ending.returned v'∧w'.ownsRow w.heap.size 3 1 v' zs.length (ints zs)∧v'≠.slice none 0 0∧Below w.heap.size w w')→(∃A' c',e=.returned (.slice A' zs.length c')∧zs.length≤c'∧IntsP (fun b=>w.heap.size≤b) w' A' zs)∧Below w.heap.size w w':=by
  rintro e w' ⟨v',rfl,hown,_,hb⟩
  obtain ⟨A',c',rfl,hc⟩:=own_form hown
  exact ⟨⟨A',c',rfl,hc,intsP_own hown⟩,hb⟩
 by_cases h0:zs=[]
 ·subst h0
  cases A with
  | none =>
   refine (Tryz.slices_Clone_int_nil 0 c w).mono ?_
   rintro e w' ⟨rfl,rfl⟩
   exact ⟨⟨none,0,rfl,zN _,fun h=>absurd rfl h⟩,zB _ _⟩
  | some a=>exact (Tryz.slices_Clone_int_zero a c w).mono fin
 obtain ⟨b,o,rfl,hlt,hc⟩:=h h0
 refine (Tryz.slices_Clone_int b o zs.length c zs w (zN _) (by omega) hc).mono ?_
 rintro e w' ⟨v',he,hown,h1,h2⟩
 rw [List.take_length] at hown
 exact fin e w' ⟨v',he,hown,h1,h2⟩
def LinkRow (q:Nat→Prop) (w:World):List Lfc.Link→List Value→Prop
 | [],xs=>xs=[]
 | x :: r,xs=>∃k n p ts At ct A c ys,x.term=.node k n p ts∧xs=.int .i64 x.kind :: .int .i64 k :: S n :: .int .i64 p :: .slice At (List.length ts) ct :: .slice A x.path.length c :: .int .i64 x.fact :: ys∧x.path.length≤c∧IntsP q w A x.path∧TreeVP q w x.term (.agg #[.int .i64 k,S n,.int .i64 p,.slice At (List.length ts) ct])∧LinkRow q w r ys
theorem LinkRow.len {q:Nat→Prop} {w:World}:∀ {l:List Lfc.Link} {xs:List Value},LinkRow q w l xs→xs.length=l.length*7
 | [],xs,h=>by rw [LinkRow] at h;subst h;rfl
 | x :: r,xs,h=>by
  rw [LinkRow] at h
  obtain ⟨k,n,p,ts,At,ct,A,c,ys,_,rfl,_,_,_,hr⟩:=h
  have:=hr.len
  simp;omega
theorem LinkRow.keep {q q':Nat→Prop} {w w':World} (hk:∀b,q b→b<w.heap.size→w'.heap[b]?=w.heap[b]?) (hs:w.heap.size≤w'.heap.size) (hq:∀b,b<w.heap.size→q b→q' b):∀ {l:List Lfc.Link} {xs:List Value},LinkRow q w l xs→LinkRow q' w' l xs
 | [],xs,h=>by rw [LinkRow] at h ⊢;exact h
 | x :: r,xs,h=>by
  rw [LinkRow] at h ⊢
  obtain ⟨k,n,p,ts,At,ct,A,c,ys,e,rfl,hc,hi,ht,hr⟩:=h
  exact ⟨k,n,p,ts,At,ct,A,c,ys,e,rfl,hc,hi.keep hk hs hq,ht.keep hk hs hq,hr.keep hk hs hq⟩
theorem LinkRow.append {q:Nat→Prop} {w:World} {m:List Lfc.Link} {zs:List Value} (hz:LinkRow q w m zs):∀ {l:List Lfc.Link} {xs:List Value},LinkRow q w l xs→LinkRow q w (l++m) (xs++zs)
 | [],xs,h=>by rw [LinkRow] at h;subst h;exact hz
 | x :: r,xs,h=>by
  rw [LinkRow] at h
  obtain ⟨k,n,p,ts,At,ct,A,c,ys,e,rfl,hc,hi,ht,hr⟩:=h
  rw [List.cons_append,LinkRow]
  exact ⟨k,n,p,ts,At,ct,A,c,ys++zs,e,rfl,hc,hi,ht,LinkRow.append hz hr⟩
theorem LinkRow.lie {q:Nat→Prop} {w:World} {b:Nat}:∀ {l:List Lfc.Link} {xs:List Value} {o:Nat},LinkRow q w l xs→CellsAt w b o xs→∀i (h:i<l.length),LinkP q w b (o+i*7) l[i]
 | [],_,_,_,_,i,h=>by cases h
 | x :: r,xs,o,h,hc,i,hi=>by
  rw [LinkRow] at h
  obtain ⟨k,n,p,ts,At,ct,A,c,ys,e,rfl,hcl,hp,ht,hr⟩:=h
  cases i with
  | zero =>
   exact ⟨k,n,p,ts,At,ct,A,c,e,by simpa using hc 0 _ rfl,by simpa using hc 1 _ rfl,by simpa using hc 2 _ rfl,by simpa using hc 3 _ rfl,by simpa using hc 4 _ rfl,by simpa using hc 5 _ rfl,by simpa using hc 6 _ rfl,hcl,hp,ht⟩
  | succ i =>
   have:=hr.lie (o:=o+7) (fun j u hj=>by
    have:=hc (j+7) u (by simpa using hj)
    rw [show o+7+j=o+(j+7) by omega]
    exact this) i (by simpa using hi)
   rw [show o+(i+1)*7=o+7+i*7 by omega]
   exact this
theorem linksP_own {q:Nat→Prop} {w:World} {base:Nat} {A:Option Addr} {n c:Nat} {xs:List Value} {l:List Lfc.Link} (h:w.ownsRow base 93 7 (.slice A n c) l.length xs) (hq:∀b,base≤b→q b) (hr:LinkRow q w l xs):LinksP q w A l:=fun hne=>by
 rcases h.2 with ⟨_,h0⟩ | ⟨g,cap,cur,hv,hb,hg,_⟩
 ·exact absurd (List.length_eq_zero_iff.1 h0) hne
 injection hv with hA h1 h2
 subst hA h1 h2
 exact ⟨g,0,rfl,zL hg,hq g hb,hr.lie (own_cells h)⟩
theorem linkInfo:(Tryz.prog.info? 93).map (fun i=>(i.zero,i.size,i.bytes))=some (some (.agg #[.int .i64 0,.int .i64 0,S [],.int .i64 0,.slice none 0 0,.slice none 0 0,.int .i64 0]),7,96):=by kernel_rfl
end Go.Proofs.YtadjpadieljjlaaGreat
