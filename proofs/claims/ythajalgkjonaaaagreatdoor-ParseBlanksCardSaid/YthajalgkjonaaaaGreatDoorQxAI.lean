/- Parts of the proof that no input makes the law false: OpFn,OpAdd,PaMem. -/
import Derived.WalkLawsBesides
import Derived.Test.YthajalgkjonaaaaGreatDoorQxAA
import Derived.Test.YthajalgkjonaaaaGreatDoorQxAB
import Derived.Test.YthajalgkjonaaaaGreatDoorQxAF
import Derived.Test.YthajalgkjonaaaaGreatDoorQxAH
set_option linter.unusedVariables false
set_option linter.unusedSimpArgs false
namespace Go.Proofs.YthajalgkjonaaaaGreatDoor
open Go.RowKit Go.Maps Go.WideMaps
theorem enters_res1:∀args w,(callFunc 118 args).run Tryz.prog w=.ok (.enter 118 args) w:=enters_of Tryz.func118 (by kernel_rfl) rfl
theorem enters_res2:∀args w,(callFunc 120 args).run Tryz.prog w=.ok (.enter 120 args) w:=enters_of Tryz.func120 (by kernel_rfl) rfl
theorem enters_add1:∀args w,(callFunc 108 args).run Tryz.prog w=.ok (.enter 108 args) w:=enters_of Tryz.func108 (by kernel_rfl) rfl
set_option maxRecDepth 100000 in
set_option maxHeartbeats 2000000 in
theorem res1_any(o:Lfc.Op)(w:World)(hn:o.name.length≤1000000):Calls Tryz.prog 118 #[opV o] w fun e w'=>e=.returned (.bool (decide (o.bad≠0)))∧Below w.heap.size w w':=by
 have C1:=Lib.hid (fun W=>check_any o W hn)
 have b1:Below w.heap.size w (w.alloc (.cells #[S o.name,.int .i64 o.fix,.int .i64 o.prec] 34)):=(Below.refl _ _).alloc (Nat.le_refl _) _
 unfold opV at C1 ⊢
 generalize o.bad=z at *
 by_cases hz:z=0
 ·subst hz
  go_enter Tryz.func118,Tryz.ntmps118
  go_wp2_with fail
  refine(C1.out _).mono ?_
  rintro e w2⟨rfl,b2⟩
  go_wp2_with fail
  go_ret
  exact⟨rfl,b1.trans (b2.mono b1.size)⟩
 ·have hz2:(z != 0)=true:=by simpa using hz
  have HZ:=Lib.hid hz
  clear hz
  go_enter Tryz.func118,Tryz.ntmps118
  go_wp2_with fail
  refine(C1.out _).mono ?_
  rintro e w2⟨rfl,b2⟩
  go_wp2_with fail
  go_ret
  exact⟨by rw[decide_eq_true HZ.out];rfl,b1.trans (b2.mono b1.size)⟩
set_option maxRecDepth 100000 in
set_option maxHeartbeats 2000000 in
theorem add1_any(o:Lfc.Op)(w:World)(B:Nat)(n:List UInt8)(hB:w.cell? ⟨B,0,none⟩=some (S n)):Calls Tryz.prog 108 #[opV o,.pointer (some ⟨B,0,none⟩)] w fun e w'=>e=.returned (.bool (decide (o.name=n)))∧Below w.heap.size w w':=by
 obtain⟨on,of,op⟩:=o
 unfold opV
 simp only
 have hBl:B<w.heap.size:=by
  rcases Nat.lt_or_ge B w.heap.size with h1 | h1
  ·exact h1
  ·unfold World.cell? at hB;simp only at hB;rw[Array.getElem?_eq_none h1] at hB;cases hB
 obtain⟨w1,hw1⟩:∃w1,w.alloc (.cells #[S on,.int .i64 of,.int .i64 op] 34)=w1:=⟨_,rfl⟩
 have b1:Below w.heap.size w w1:=by rw[←hw1];exact(Below.refl _ _).alloc (Nat.le_refl _) _
 have q1:w1.heap[w.heap.size]?=some (.cells #[S on,.int .i64 of,.int .i64 op] 34 (0,0)):=by rw[←hw1];exact heap_alloc_new _ _
 have x0:=(cells3 q1).1
 have y0:=(b1.cell (p:=⟨B,0,none⟩) hBl).trans hB
 clear q1 hB
 by_cases hn:on=n
 ·have hn2:(on == n)=true:=by simp[hn]
  have HN:=Lib.hid hn
  subst hn
  go_enter Tryz.func108,Tryz.ntmps108
  go_upto_region 1 with fail
  clear hw1
  go_wp2_with fail
  go_ret
  exact⟨by simp,b1⟩
 ·have hn2:(on == n)=false:=by simpa using hn
  have HN:=Lib.hid hn
  clear hn
  go_enter Tryz.func108,Tryz.ntmps108
  go_upto_region 1 with fail
  clear hw1
  go_wp2_with fail
  go_ret
  exact⟨by rw[decide_eq_false HN.out];rfl,b1⟩
set_option maxRecDepth 100000 in
set_option maxHeartbeats 2000000 in
theorem res2_any(x:Lfc.Opd)(v:Value)(w:World)(B:Nat)(z:Int)(hx:x.tree.size≤100000000)(hv:OpdV w x v)(hB:w.cell? ⟨B,0,none⟩=some (.int .i64 z)):Calls Tryz.prog 120 #[v,.pointer (some ⟨B,0,none⟩)] w fun e w'=>e=.returned (.bool (!x.arrow && decide (x.tree.wf=z)))∧Below w.heap.size w w':=by
 have hBl:B<w.heap.size:=by
  rcases Nat.lt_or_ge B w.heap.size with h1 | h1
  ·exact h1
  ·unfold World.cell? at hB;simp only at hB;rw[Array.getElem?_eq_none h1] at hB;cases hB
 obtain⟨⟨k,n,p,ts⟩,cl⟩:=x
 obtain⟨k',n',p',ts',A,c,e,rfl,hT⟩:=hv
 cases e
 simp only at hx ⊢
 have hlen:=Lfc.Raw.sizes_len ts
 have hsz:ts.length≤1000000000:=by simp only[Lfc.Raw.size] at hx;omega
 obtain⟨w1,hw1⟩:∃w1,w.alloc (.cells #[.int .i64 k,S n,.int .i64 p,.slice A ts.length c,.bool cl] 129)=w1:=⟨_,rfl⟩
 have b1:Below w.heap.size w w1:=by rw[←hw1];exact(Below.refl _ _).alloc (Nat.le_refl _) _
 have q1:w1.heap[w.heap.size]?=some (.cells #[.int .i64 k,S n,.int .i64 p,.slice A ts.length c,.bool cl] 129 (0,0)):=by rw[←hw1];exact heap_alloc_new _ _
 have y0:=(b1.cell (p:=⟨B,0,none⟩) hBl).trans hB
 have hw1s:=lt_of_block q1
 have SC:Hid (∀W,Below w1.heap.size w1 W→(W.cell? ⟨w.heap.size,0,none⟩=some (.int .i64 k)∧W.cell? ⟨w.heap.size,1,none⟩=some (S n)∧W.cell? ⟨w.heap.size,2,none⟩=some (.int .i64 p)∧W.cell? ⟨w.heap.size,3,none⟩=some (.slice A ts.length c)∧W.cell? ⟨w.heap.size,4,none⟩=some (.bool cl))∧W.cell? ⟨B,0,none⟩=some (.int .i64 z)):=Lib.hid (fun W hb=>by
  have e:=(hb.block _ hw1s).trans q1
  exact⟨⟨Lib.cell_of_heap e 0,Lib.cell_of_heap e 1,Lib.cell_of_heap e 2,Lib.cell_of_heap e 3,Lib.cell_of_heap e 4⟩,(hb.cell (p:=⟨B,0,none⟩) (by simp only;omega)).trans y0⟩)
 have CA:=Lib.hid (fun W (hb:Below w1.heap.size w1 W)=>arrow_any ⟨.node k n p ts,cl⟩ _ W hsz ⟨k,n,p,ts,A,c,rfl,rfl,hT.below (b1.trans (hb.mono b1.size))⟩)
 have CW:=Lib.hid (fun W (hb:Below w1.heap.size w1 W)=>wf_any (.node k n p ts) _ W (by omega) (hT.below (b1.trans (hb.mono b1.size))))
 have G0:Below w1.heap.size w1 w1.drew:=(Below.refl _ _).drew
 have aa:∀W W',Below w1.heap.size w1 W→Below W.heap.size W W'→Below w1.heap.size w1 W':=fun W W' h h'=>h.trans (h'.mono h.size)
 generalize hf:(Lfc.Raw.node k n p ts).wf=f at *
 generalize ha:Lfc.Opd.arrow ⟨.node k n p ts,cl⟩=a at *
 clear hf ha hT q1 y0 hB hx hlen
 have main:∀q:Bool,q=decide (f=z)→Calls Tryz.prog 120 #[.agg #[.int .i64 k,S n,.int .i64 p,.slice A ts.length c,.bool cl],.pointer (some ⟨B,0,none⟩)] w fun e w'=>e=.returned (.bool (!a && q))∧Below w.heap.size w w':=fun q hq=>by
  have hfz:(f == z)=q:=by rw[hq];by_cases h:f=z <;> simp[h]
  clear hq
  cases q <;> cases a
  ·go_enter Tryz.func120,Tryz.ntmps120
   go_upto_region 1 with fail
   clear hw1
   go_region_held3 (fun W=>(W.cell? ⟨w.heap.size,0,none⟩=some (.int .i64 k)∧W.cell? ⟨w.heap.size,1,none⟩=some (S n)∧W.cell? ⟨w.heap.size,2,none⟩=some (.int .i64 p)∧W.cell? ⟨w.heap.size,3,none⟩=some (.slice A ts.length c)∧W.cell? ⟨w.heap.size,4,none⟩=some (.bool cl))∧W.cell? ⟨B,0,none⟩=some (.int .i64 z))
    (first | exact SC.out _ G0 | (refine SC.out _ ?_;assumption))
    (first
     |(go_at_call 121;((with_reducible refine(CA.out _ ?_).mono ?_));assumption;rintro e w5⟨rfl,hb5'⟩;have hb5:=aa _ _ (by assumption) hb5')
     |(go_at_call 48;((with_reducible refine(CW.out _ ?_).mono ?_));assumption;rintro e w6⟨rfl,hb6'⟩;have hb6:=aa _ _ (by assumption) hb6'))
   all_goals
    go_wp2_with fail
    go_ret
    exact⟨rfl,b1.trans (hb6.mono b1.size)⟩
  ·go_enter Tryz.func120,Tryz.ntmps120
   go_upto_region 1 with fail
   clear hw1
   obtain⟨⟨x0,x1,x2,x3,x4⟩,_⟩:=SC.out w1 (Below.refl _ _)
   first | (go_region_law (go_simp;go_at_call 121;refine(CA.out _ G0).mono ?_;rintro e w5⟨rfl,hb5'⟩;have hb5:=aa _ _ G0 hb5')) | fail
   all_goals
    go_wp2_with fail
    go_ret
    exact⟨rfl,b1.trans (hb5.mono b1.size)⟩
  ·go_enter Tryz.func120,Tryz.ntmps120
   go_upto_region 1 with fail
   clear hw1
   go_region_held3 (fun W=>(W.cell? ⟨w.heap.size,0,none⟩=some (.int .i64 k)∧W.cell? ⟨w.heap.size,1,none⟩=some (S n)∧W.cell? ⟨w.heap.size,2,none⟩=some (.int .i64 p)∧W.cell? ⟨w.heap.size,3,none⟩=some (.slice A ts.length c)∧W.cell? ⟨w.heap.size,4,none⟩=some (.bool cl))∧W.cell? ⟨B,0,none⟩=some (.int .i64 z))
    (first | exact SC.out _ G0 | (refine SC.out _ ?_;assumption))
    (first
     |(go_at_call 121;((with_reducible refine(CA.out _ ?_).mono ?_));assumption;rintro e w5⟨rfl,hb5'⟩;have hb5:=aa _ _ (by assumption) hb5')
     |(go_at_call 48;((with_reducible refine(CW.out _ ?_).mono ?_));assumption;rintro e w6⟨rfl,hb6'⟩;have hb6:=aa _ _ (by assumption) hb6'))
   all_goals
    go_wp2_with fail
    go_ret
    exact⟨rfl,b1.trans (hb6.mono b1.size)⟩
  ·go_enter Tryz.func120,Tryz.ntmps120
   go_upto_region 1 with fail
   clear hw1
   obtain⟨⟨x0,x1,x2,x3,x4⟩,_⟩:=SC.out w1 (Below.refl _ _)
   first | (go_region_law (go_simp;go_at_call 121;refine(CA.out _ G0).mono ?_;rintro e w5⟨rfl,hb5'⟩;have hb5:=aa _ _ G0 hb5')) | fail
   all_goals
    go_wp2_with fail
    go_ret
    exact⟨rfl,b1.trans (hb5.mono b1.size)⟩
 exact main _ rfl
set_option maxRecDepth 100000 in
set_option maxHeartbeats 2000000 in
theorem index_res1(l:List Lfc.Op)(A:Option Addr)(c:Nat)(w:World)(hl:l.length≤1000000000)(hA:OpsAt w A l)  :
  Calls Tryz.prog 159 #[.slice A l.length c,.func (.func 118) #[] #[]] w fun e w'=>∃i:Int,e=.returned (.int .i64 i)∧decide (i≥0)=l.any (fun x=>decide (x.bad≠0))∧Below w.heap.size w w':=by
 have he:=enters_res1
 have HA:=Lib.hid hA
 have HANY:Hid (l.any (fun x=>decide (x.bad≠0))=l.any (fun x=>decide (x.bad≠0))):=Lib.hid rfl
 obtain⟨P,hP⟩:∃P:Lfc.Op→Bool,P=fun x=>decide (x.bad≠0):=⟨_,rfl⟩
 rw[←hP]
 have HP:=Lib.hid hP
 clear hP hA HANY
 go_enter Tryz.func159,Tryz.ntmps159
 go_wp2_with fail
 go_loopw [8] (fun i wr=>∃k:Nat,k≤l.length∧i=.int .i64 k∧Below w.heap.size w wr∧Hid ((l.take k).any P=false)) (fun i _=>l.length-(intOf i).toNat)
 case atStart=>exact⟨0,by omega,rfl,Below.refl _ _,Lib.hid (by simp)⟩
 case round =>
  obtain⟨k,hk,rfl,hbw,HQ⟩:=hrel
  by_cases hlt:k<l.length
  ·have HN:Hid ((l.take (k+1)).any P=P l[k]):=Lib.hid (by rw[List.take_succ_eq_append_getElem hlt,List.any_append,HQ.out];simp)
   obtain⟨b,o,rfl,hb,hcs⟩:=HA.out.2 (by intro e;rw[e] at hlt;simp at hlt)
   obtain⟨d0,d1,d2⟩:=hcs k hlt
   have e0:=(hbw.cell (p:=⟨b,_,none⟩) hb).trans d0
   have e1:=(hbw.cell (p:=⟨b,_,none⟩) hb).trans d1
   have e2:=(hbw.cell (p:=⟨b,_,none⟩) hb).trans d2
   clear hcs d0 d1 d2
   have CC:=Lib.hid (res1_any l[k] wr (HA.out.1 _ (List.getElem_mem _)))
   unfold opV at CC
   have HPX:Hid (P l[k]=(fun x=>decide (x.bad≠0)) l[k]):=Lib.hid (by rw[HP.out])
   have hi0:(0:Int)≤(k:Int):=Int.natCast_nonneg _
   have hi1:(k:Int)<(l.length:Int):=by omega
   have HM:Hid (P l[k]=true→l.any P=true):=Lib.hid (fun h=>List.any_eq_true.2 ⟨l[k],List.getElem_mem _,h⟩)
   simp only at HPX
   rw[←HPX.out] at CC
   generalize hq:P l[k]=q at *
   clear hq HPX
   cases q
   ·go_wp2_with fail
    refine CC.out.mono ?_
    rintro e w1⟨rfl,hb1⟩
    go_wp2_with fail
    go_roundw
    case rel=>exact⟨k+1,by omega,by go_num,hbw.trans (hb1.mono hbw.size),HN⟩
    case measure=>simp[intOf];omega
   ·have hany:=HM.out rfl
    go_wp2_with fail
    refine CC.out.mono ?_
    rintro e w1⟨rfl,hb1⟩
    go_wp2_with fail
    go_ret
    exact⟨k,rfl,by rw[hany];simp,hbw.trans (hb1.mono hbw.size)⟩
  ·have hany:l.any P=false:=by have:=HQ.out;rwa[List.take_of_length_le (by omega)] at this
   have HANY:=Lib.hid hany
   clear hany
   go_wp2_with fail
   go_ret
   exact⟨-1,rfl,by rw[HANY.out];decide,hbw⟩
set_option maxRecDepth 100000 in
set_option maxHeartbeats 1000000 in
theorem contains_res1(l:List Lfc.Op)(A:Option Addr)(c:Nat)(w:World)(hl:l.length≤1000000000)(hA:OpsAt w A l)  :
  Calls Tryz.prog 107 #[.slice A l.length c,.func (.func 118) #[] #[]] w fun e w'=>e=.returned (.bool (l.any (fun x=>decide (x.bad≠0))))∧Below w.heap.size w w':=by
 have IH:=Lib.hid (index_res1 l A c w  hl hA )
 clear hA
 generalize l.any (fun x=>decide (x.bad≠0))=q at *
 go_enter Tryz.func107,Tryz.ntmps107
 go_wp2_with fail
 refine IH.out.mono ?_
 rintro e w1⟨i,rfl,hi,hb1⟩
 have HI:=Lib.hid hi
 clear hi
 go_wp2_with fail
 go_ret
 exact⟨ret_bool HI.out,hb1⟩
set_option maxRecDepth 100000 in
set_option maxHeartbeats 2000000 in
theorem index_add1(l:List Lfc.Op)(A:Option Addr)(c:Nat)(w:World)(B:Nat)(nm:List UInt8)(hl:l.length≤1000000000)(hA:OpsAt w A l)(hB:w.cell? ⟨B,0,none⟩=some (S nm))(hBl:B<w.heap.size) :
  Calls Tryz.prog 159 #[.slice A l.length c,.func (.func 108) #[] #[.pointer (some ⟨B,0,none⟩)]] w fun e w'=>∃i:Int,e=.returned (.int .i64 i)∧decide (i≥0)=l.any (fun x=>decide (x.name=nm))∧Below w.heap.size w w':=by
 have he:=enters_add1
 have HA:=Lib.hid hA
 have HB:=Lib.hid hB
 clear hB
 have HANY:Hid (l.any (fun x=>decide (x.name=nm))=l.any (fun x=>decide (x.name=nm))):=Lib.hid rfl
 obtain⟨P,hP⟩:∃P:Lfc.Op→Bool,P=fun x=>decide (x.name=nm):=⟨_,rfl⟩
 rw[←hP]
 have HP:=Lib.hid hP
 clear hP hA HANY
 go_enter Tryz.func159,Tryz.ntmps159
 go_wp2_with fail
 go_loopw [8] (fun i wr=>∃k:Nat,k≤l.length∧i=.int .i64 k∧Below w.heap.size w wr∧Hid ((l.take k).any P=false)) (fun i _=>l.length-(intOf i).toNat)
 case atStart=>exact⟨0,by omega,rfl,Below.refl _ _,Lib.hid (by simp)⟩
 case round =>
  obtain⟨k,hk,rfl,hbw,HQ⟩:=hrel
  by_cases hlt:k<l.length
  ·have HN:Hid ((l.take (k+1)).any P=P l[k]):=Lib.hid (by rw[List.take_succ_eq_append_getElem hlt,List.any_append,HQ.out];simp)
   obtain⟨b,o,rfl,hb,hcs⟩:=HA.out.2 (by intro e;rw[e] at hlt;simp at hlt)
   obtain⟨d0,d1,d2⟩:=hcs k hlt
   have e0:=(hbw.cell (p:=⟨b,_,none⟩) hb).trans d0
   have e1:=(hbw.cell (p:=⟨b,_,none⟩) hb).trans d1
   have e2:=(hbw.cell (p:=⟨b,_,none⟩) hb).trans d2
   clear hcs d0 d1 d2
   have CC:=Lib.hid (add1_any l[k] wr B nm ((hbw.cell (p:=⟨B,0,none⟩) hBl).trans HB.out))
   unfold opV at CC
   have HPX:Hid (P l[k]=(fun x=>decide (x.name=nm)) l[k]):=Lib.hid (by rw[HP.out])
   have hi0:(0:Int)≤(k:Int):=Int.natCast_nonneg _
   have hi1:(k:Int)<(l.length:Int):=by omega
   have HM:Hid (P l[k]=true→l.any P=true):=Lib.hid (fun h=>List.any_eq_true.2 ⟨l[k],List.getElem_mem _,h⟩)
   simp only at HPX
   rw[←HPX.out] at CC
   generalize hq:P l[k]=q at *
   clear hq HPX
   cases q
   ·go_wp2_with fail
    refine CC.out.mono ?_
    rintro e w1⟨rfl,hb1⟩
    go_wp2_with fail
    go_roundw
    case rel=>exact⟨k+1,by omega,by go_num,hbw.trans (hb1.mono hbw.size),HN⟩
    case measure=>simp[intOf];omega
   ·have hany:=HM.out rfl
    go_wp2_with fail
    refine CC.out.mono ?_
    rintro e w1⟨rfl,hb1⟩
    go_wp2_with fail
    go_ret
    exact⟨k,rfl,by rw[hany];simp,hbw.trans (hb1.mono hbw.size)⟩
  ·have hany:l.any P=false:=by have:=HQ.out;rwa[List.take_of_length_le (by omega)] at this
   have HANY:=Lib.hid hany
   clear hany
   go_wp2_with fail
   go_ret
   exact⟨-1,rfl,by rw[HANY.out];decide,hbw⟩
set_option maxRecDepth 100000 in
set_option maxHeartbeats 1000000 in
theorem contains_add1(l:List Lfc.Op)(A:Option Addr)(c:Nat)(w:World)(B:Nat)(nm:List UInt8)(hl:l.length≤1000000000)(hA:OpsAt w A l)(hB:w.cell? ⟨B,0,none⟩=some (S nm))(hBl:B<w.heap.size) :
  Calls Tryz.prog 107 #[.slice A l.length c,.func (.func 108) #[] #[.pointer (some ⟨B,0,none⟩)]] w fun e w'=>e=.returned (.bool (l.any (fun x=>decide (x.name=nm))))∧Below w.heap.size w w':=by
 have IH:=Lib.hid (index_add1 l A c w B nm hl hA hB hBl)
 clear hA
 generalize l.any (fun x=>decide (x.name=nm))=q at *
 go_enter Tryz.func107,Tryz.ntmps107
 go_wp2_with fail
 refine IH.out.mono ?_
 rintro e w1⟨i,rfl,hi,hb1⟩
 have HI:=Lib.hid hi
 clear hi
 go_wp2_with fail
 go_ret
 exact⟨ret_bool HI.out,hb1⟩
set_option maxRecDepth 100000 in
set_option maxHeartbeats 2000000 in
theorem index_res2(l:List Lfc.Opd)(A:Option Addr)(c:Nat)(w:World)(B:Nat)(z:Int)(hl:l.length≤1000000000)(hA:OpdsAt w A l)(hB:w.cell? ⟨B,0,none⟩=some (.int .i64 z))(hBl:B<w.heap.size)(hsm:∀x∈l,x.tree.size≤100000000) :
  Calls Tryz.prog 166 #[.slice A l.length c,.func (.func 120) #[] #[.pointer (some ⟨B,0,none⟩)]] w fun e w'=>∃i:Int,e=.returned (.int .i64 i)∧decide (i≥0)=l.any (fun x=>!x.arrow && decide (x.tree.wf=z))∧Below w.heap.size w w':=by
 have he:=enters_res2
 have HA:=Lib.hid hA
 have HB:=Lib.hid hB
 have HSM:=Lib.hid hsm
 clear hB hsm
 have HANY:Hid (l.any (fun x=>!x.arrow && decide (x.tree.wf=z))=l.any (fun x=>!x.arrow && decide (x.tree.wf=z))):=Lib.hid rfl
 obtain⟨P,hP⟩:∃P:Lfc.Opd→Bool,P=fun x=>!x.arrow && decide (x.tree.wf=z):=⟨_,rfl⟩
 rw[←hP]
 have HP:=Lib.hid hP
 clear hP hA HANY
 go_enter Tryz.func166,Tryz.ntmps166
 go_wp2_with fail
 go_loopw [8] (fun i wr=>∃k:Nat,k≤l.length∧i=.int .i64 k∧Below w.heap.size w wr∧Hid ((l.take k).any P=false)) (fun i _=>l.length-(intOf i).toNat)
 case atStart=>exact⟨0,by omega,rfl,Below.refl _ _,Lib.hid (by simp)⟩
 case round =>
  obtain⟨k,hk,rfl,hbw,HQ⟩:=hrel
  by_cases hlt:k<l.length
  ·have HN:Hid ((l.take (k+1)).any P=P l[k]):=Lib.hid (by rw[List.take_succ_eq_append_getElem hlt,List.any_append,HQ.out];simp)
   obtain⟨b,o,kk,nn,pp,tt,BB,cc,rfl,hb,hnd,e0,e1,e2,e3,e4,hTT⟩:=(HA.out.below hbw).at_ hlt
   have CC:=Lib.hid (res2_any l[k] _ wr B z (HSM.out _ (List.getElem_mem _)) ⟨kk,nn,pp,tt,BB,cc,hnd,rfl,hTT⟩ ((hbw.cell (p:=⟨B,0,none⟩) hBl).trans HB.out))
   have HPX:Hid (P l[k]=(fun x=>!x.arrow && decide (x.tree.wf=z)) l[k]):=Lib.hid (by rw[HP.out])
   have hi0:(0:Int)≤(k:Int):=Int.natCast_nonneg _
   have hi1:(k:Int)<(l.length:Int):=by omega
   have HM:Hid (P l[k]=true→l.any P=true):=Lib.hid (fun h=>List.any_eq_true.2 ⟨l[k],List.getElem_mem _,h⟩)
   simp only at HPX
   rw[←HPX.out] at CC
   generalize hq:P l[k]=q at *
   clear hq HPX
   cases q
   ·go_wp2_with fail
    refine CC.out.mono ?_
    rintro e w1⟨rfl,hb1⟩
    go_wp2_with fail
    go_roundw
    case rel=>exact⟨k+1,by omega,by go_num,hbw.trans (hb1.mono hbw.size),HN⟩
    case measure=>simp[intOf];omega
   ·have hany:=HM.out rfl
    go_wp2_with fail
    refine CC.out.mono ?_
    rintro e w1⟨rfl,hb1⟩
    go_wp2_with fail
    go_ret
    exact⟨k,rfl,by rw[hany];simp,hbw.trans (hb1.mono hbw.size)⟩
  ·have hany:l.any P=false:=by have:=HQ.out;rwa[List.take_of_length_le (by omega)] at this
   have HANY:=Lib.hid hany
   clear hany
   go_wp2_with fail
   go_ret
   exact⟨-1,rfl,by rw[HANY.out];decide,hbw⟩
set_option maxRecDepth 100000 in
set_option maxHeartbeats 1000000 in
theorem contains_res2(l:List Lfc.Opd)(A:Option Addr)(c:Nat)(w:World)(B:Nat)(z:Int)(hl:l.length≤1000000000)(hA:OpdsAt w A l)(hB:w.cell? ⟨B,0,none⟩=some (.int .i64 z))(hBl:B<w.heap.size)(hsm:∀x∈l,x.tree.size≤100000000) :
  Calls Tryz.prog 119 #[.slice A l.length c,.func (.func 120) #[] #[.pointer (some ⟨B,0,none⟩)]] w fun e w'=>e=.returned (.bool (l.any (fun x=>!x.arrow && decide (x.tree.wf=z))))∧Below w.heap.size w w':=by
 have IH:=Lib.hid (index_res2 l A c w B z hl hA hB hBl hsm)
 clear hA
 generalize l.any (fun x=>!x.arrow && decide (x.tree.wf=z))=q at *
 go_enter Tryz.func119,Tryz.ntmps119
 go_wp2_with fail
 refine IH.out.mono ?_
 rintro e w1⟨i,rfl,hi,hb1⟩
 have HI:=Lib.hid hi
 clear hi
 go_wp2_with fail
 go_ret
 exact⟨ret_bool HI.out,hb1⟩
end Go.Proofs.YthajalgkjonaaaaGreatDoor
namespace Go.Proofs.YthajalgkjonaaaaGreatDoor
open Go.RowKit Go.Maps Go.WideMaps
def opCells:List Lfc.Op→List Value
 |[]=>[]
 |x :: r=>S x.name :: .int .i64 x.fix :: .int .i64 x.prec :: opCells r
theorem opCells_len:∀l:List Lfc.Op,(opCells l).length=l.length*3
 |[]=>rfl
 |x :: r=>by simp only[opCells,List.length_cons,opCells_len r];omega
theorem opCells_app:∀a b:List Lfc.Op,opCells (a++b)=opCells a++opCells b
 |[],b=>rfl
 |x :: r,b=>by simp only[List.cons_append,opCells,opCells_app r b]
theorem opCells_one:∀(l:List Lfc.Op),∀u∈opCells l,u.oneCell'=true
 |[],u,h=>by cases h
 |x :: r,u,h=>by
  simp only[opCells,List.mem_cons] at h
  rcases h with rfl | rfl | rfl | h
  ·rfl
  ·rfl
  ·rfl
  ·exact opCells_one r u h
theorem opCells_get:∀(l:List Lfc.Op)(i:Nat)(h:i<l.length),(opCells l)[i*3]?=some (S l[i].name)∧(opCells l)[i*3+1]?=some (.int .i64 l[i].fix)∧(opCells l)[i*3+2]?=some (.int .i64 l[i].prec)
 |[],_,h=>by simp at h
 |x :: r,0,_=>by simp[opCells]
 |x :: r,i+1,h=>by
  have:=opCells_get r i (by simpa using h)
  rw[show(i+1)*3=i*3+1+1+1 by omega]
  simpa[opCells] using this
theorem ops_cells{w:World}{b:Nat}:∀(l:List Lfc.Op)(o:Nat),(∀i(h:i<l.length),OpC w b (o+i*3) l[i])→∀j u,(opCells l)[j]?=some u→w.cell? ⟨b,o+j,none⟩=some u
 |[],o,_,j,u,h=>by simp[opCells] at h
 | x :: r, o, hc, j, u, h => by
  have h0:=hc 0 (by simp)
  simp only[Nat.zero_mul,Nat.add_zero,List.getElem_cons_zero] at h0
  match j with
  |0=>simp[opCells] at h;subst h;exact h0.1
  |1=>simp[opCells] at h;subst h;exact h0.2.1
  |2=>simp[opCells] at h;subst h;exact h0.2.2
  | j + 3 =>
   have h1:=ops_cells r (o+3) (fun i hi=>by
    have:=hc (i+1) (by simpa using hi)
    rw[show o+3+i*3=o+(i+1)*3 by omega]
    simpa using this) j u (by simpa[opCells] using h)
   rw[show o+(j+3)=o+3+j by omega]
   exact h1
theorem OpsAt.of_own{w:World}{base c:Nat}{A:Option Addr}{l:List Lfc.Op}(hn:∀x∈l,x.name.length≤1000000)(h:w.ownsRow base 34 3 (.slice A l.length c) l.length (opCells l)):OpsAt w A l:=⟨hn,fun hne=>by
 rcases h.2 with⟨_,h0⟩ | ⟨g,cap,cur,hv,hbg,hg,_⟩
 ·exact absurd (List.length_eq_zero_iff.1 h0) hne
 ·have hv':=hv
  injection hv with e1 _ e3
  subst e1 e3
  have hc:=own_cells h
  refine⟨g,0,rfl,lt_of_block hg,fun i hi=>?_⟩
  obtain⟨c0,c1,c2⟩:=opCells_get l i hi
  exact⟨hc _ _ c0,hc _ _ c1,hc _ _ c2⟩⟩
theorem op_info:∃i,Tryz.prog.info? 34=some i∧i.zero=some (.agg #[S [],.int .i64 0,.int .i64 0])∧i.size=3∧i.bytes=32:=by
 obtain⟨i0,hi,hz0,hz1,hz2⟩:=info_parts (show(Tryz.prog.info? 34).map (fun i=>(i.zero,i.size,i.bytes))=some (some (.agg #[S [],.int .i64 0,.int .i64 0]),3,32) by kernel_rfl)
 exact⟨i0,hi,hz0,hz1,hz2⟩
set_option maxRecDepth 100000 in
set_option maxHeartbeats 2000000 in
theorem oclone_any(l:List Lfc.Op)(A:Option Addr)(c:Nat)(w:World)(hl:l.length≤1000000000)(h:OpsAt w A l) :
  Calls Tryz.prog 61 #[.slice A l.length c] w fun e w'=>∃A' c',e=.returned (.slice A' l.length c')∧Hid (w'.ownsRow w.heap.size 34 3 (.slice A' l.length c') l.length (opCells l))∧Below w.heap.size w w':=by
 obtain⟨i0,hi,hz0,hz1,hz2⟩:=op_info
 rcases A with _ | A
 ·have hts:l=[]:=by
   by_cases e:l=[]
   ·exact e
   ·obtain⟨b,o,hA,_⟩:=h.2 e;cases hA
  subst hts
  simp only[List.length_nil] at *
  have hnil:∀W:World,(binOp .eql 26 (.slice none 0 c) (.slice none 0 0)).run Tryz.prog W=.ok (.bool true) W:=fun _=>rfl
  clear h
  go_enter Tryz.func61,Tryz.ntmps61
  go_wp2_with fail
  go_ret
  exact⟨none,0,rfl,Lib.hid (own_nil _ _ _ _),Below.refl _ _⟩
 ·have hcells:∀j u,(opCells l)[j]?=some u→w.cell? (A.add j)=some u:=fun j u hj=>by
   by_cases e:l=[]
   ·subst e;simp[opCells] at hj
   ·obtain⟨b,o,hA,hb,hc⟩:=h.2 e
    cases hA
    rw[Go.WideShapes.add_plain]
    exact ops_cells l o hc j u hj
  have hx:=opCells_len l
  have hone:=opCells_one l
  have hlm:0+l.length≤maxLen:=by unfold maxLen;omega
  have hl32:(0+l.length)*32≤140737488355328:=by omega
  have hown0:(w.alloc (.cells #[] 34)).ownsRow w.heap.size 34 3 (.slice (some ⟨w.heap.size,0,none⟩) 0 0) 0 [] :=
   ⟨rfl,.inr ⟨w.heap.size,0,#[],rfl,Nat.le_refl _,heap_alloc_new _ _,Nat.le_refl _,by unfold maxLen;omega,rfl,rfl⟩⟩
  have hc2:∀j u,(opCells l)[j]?=some u→(w.alloc (.cells #[] 34)).cell? (A.add j)=some u:=fun j u hj=>by
   have h1:=hcells j u hj
   have h2:(A.add j).block<w.heap.size:=by
    rcases Nat.lt_or_ge (A.add j).block w.heap.size with h3 | h3
    ·exact h3
    ·unfold World.cell? at h1;rw[Array.getElem?_eq_none h3] at h1;cases h1
   rw[World.cell?_of_block (Lib.alloc_old w _ _ h2)];exact h1
  have HOWN:=Lib.hid hown0
  have HC2:=Lib.hid hc2
  have b1:Below w.heap.size w (w.alloc (.cells #[] 34)):=(Below.refl _ _).alloc (Nat.le_refl _) _
  have hnil:∀W:World,(binOp .eql 26 (.slice (some A) l.length c) (.slice none 0 0)).run Tryz.prog W=.ok (.bool false) W:=fun _=>rfl
  clear h hcells hown0 hc2
  go_enter Tryz.func61,Tryz.ntmps61
  go_wp2_with (at_builtin;refine wpList_append_own_at _ rfl _ _ 26 rfl w.heap.size 34 i0 (.agg #[S [],.int .i64 0,.int .i64 0]) 3 32 Tryz.underlying26 hi hz0 hz1 hz2 rfl (by decide) _ _ _ rfl HOWN.out A l.length c (opCells l) rfl hx HC2.out hone hlm hl32 (by simp) ?_)
  intro v' w2 hown2 hg2 _ _
  obtain⟨A2,c2,rfl⟩:=own_form hown2
  have HO2:=Lib.hid hown2
  have b2:Below w.heap.size w w2:=b1.grown hg2 (by simp) (own_block_ge HOWN.out)
  clear hown2 hg2
  go_wp2_with fail
  go_ret
  exact⟨A2,c2,rfl,by simpa using HO2,b2⟩
def AddPost(w:World)(l:List Lfc.Op)(o:Lfc.Op)(e:Ending)(w':World):Prop:=(∃A c,e=.returned (.tuple #[.slice A (Lfc.added l o).1.length c,.int .i64 (Lfc.added l o).2])∧OpsAt w' A (Lfc.added l o).1)∧Below w.heap.size w w'
def AddPostN(w:World)(l:List Lfc.Op)(o:Lfc.Op)(e:Ending)(w':World):Prop:=(∃A c,e=.returned (.tuple #[.slice A (Lfc.added l o).1.length c,.int .i64 (Lfc.added l o).2])∧OpsAt w' A (Lfc.added l o).1∧∀a,A=some a→w.heap.size≤a.block)∧Below w.heap.size w w'
set_option maxRecDepth 100000 in
set_option maxHeartbeats 4000000 in
theorem opAdd_new(l:List Lfc.Op)(o:Lfc.Op)(A:Option Addr)(c:Nat)(w:World)(hl:l.length≤1000000)(hn:o.name.length≤1000000)(h:OpsAt w A l) :
  Calls Tryz.prog 49 #[.slice A l.length c,opV o] w (AddPostN w l o):=by
 have he:=enters_add1
 obtain⟨i0,hi,hz0,hz1,hz2⟩:=op_info
 obtain⟨wa,hwa⟩:∃wa,w.alloc (.cells #[S o.name,.int .i64 o.fix,.int .i64 o.prec] 34)=wa:=⟨_,rfl⟩
 have ba:Below w.heap.size w wa:=by rw[←hwa];exact(Below.refl _ _).alloc (Nat.le_refl _) _
 have qa:wa.heap[w.heap.size]?=some (.cells #[S o.name,.int .i64 o.fix,.int .i64 o.prec] 34 (0,0)):=by rw[←hwa];exact heap_alloc_new _ _
 have hlta:=lt_of_block qa
 have HN:=Lib.hid h.1
 have CK:=Lib.hid (check_any o wa hn)
 have CC:=Lib.hid (fun W (hb:Below wa.heap.size wa W)=>contains_add1 l A c W w.heap.size o.name (by omega) (h.below (ba.trans (hb.mono ba.size))) ((hb.cell (p:=⟨w.heap.size,0,none⟩) hlta).trans (cells3 qa).1) (Nat.lt_of_lt_of_le hlta hb.size))
 have CL:=Lib.hid (fun W (hb:Below wa.heap.size wa W)=>oclone_any l A c W (by omega) (h.below (ba.trans (hb.mono ba.size))))
 have FC:=Lib.hid (fun W (hb:Below wa.heap.size wa W)=>cells3 ((hb.block _ hlta).trans qa))
 have BA:=Lib.hid ba
 have aa:∀W W',Below wa.heap.size wa W→Below W.heap.size W W'→Below wa.heap.size wa W':=fun W W' h h'=>h.trans (h'.mono h.size)
 obtain⟨q,hq⟩:∃q,l.any (fun x=>decide (x.name=o.name))=q:=⟨_,rfl⟩
 have HQ:=Lib.hid hq
 rw[hq] at CC
 obtain⟨x0,x1,x2⟩:=cells3 qa
 have fin0:Hid (∀(k:Int)(A':Option Addr)(c':Nat)(W W':World),Lfc.added l o=(l,k)→Below wa.heap.size wa W→Below W.heap.size W W'→W'.ownsRow W.heap.size 34 3 (.slice A' l.length c') l.length (opCells l)→AddPostN w l o (.returned (.tuple #[.slice A' l.length c',.int .i64 k])) W'):=Lib.hid (fun k A' c' W W' ha hb hb' ho=>by
  unfold AddPostN
  rw[ha]
  exact⟨⟨A',c',rfl,OpsAt.of_own HN.out ho,fun a e=>by have h1:=ho.lt a.block (by show Value.ownBlock (.slice A' l.length c')=_;rw[e];rfl);have h2:=hb.size;have h3:=BA.out.size;omega⟩,BA.out.trans (((hb.trans (hb'.mono hb.size))).mono BA.out.size)⟩)
 unfold opV at CK ⊢
 have HWA:=Lib.hid hwa
 have HAD0:Hid (Lfc.added l o=if o.bad≠0 then(l,o.bad) else if q=true then(l,30) else if 512≤l.length then(l,7) else(l++[o],0)):=Lib.hid (by unfold Lfc.added;rw[hq])
 generalize hzb:o.bad=z at *
 clear ba qa h hwa hq hzb
 by_cases hz:z=0
 ·subst hz
  cases q
  ·by_cases h5:512≤l.length
   ·have HAD:Hid (Lfc.added l o=(l,7)):=Lib.hid (by rw[HAD0.out];simp[h5])
    have h5i:(512:Int)≤(l.length:Int):=by omega
    have h5d:decide (512≤l.length)=true:=by simpa using h5
    go_enter Tryz.func49,Tryz.ntmps49
    go_upto_region 1 with fail
    rw[HWA.out]
    go_wp2_with fail
    refine CK.out.mono ?_
    rintro e w1⟨rfl,b1⟩
    have hb1:=aa _ _ (Below.refl _ _) b1
    go_wp2_with fail
    refine(CC.out w1 hb1).mono ?_
    rintro e w2⟨rfl,b2⟩
    have hb2:=aa _ _ hb1 b2
    go_wp2_with fail
    refine(CL.out w2 hb2).mono ?_
    rintro e w4⟨A4,c4,rfl,HO4,b4⟩
    go_wp2_with fail
    go_ret2
    exact fin0.out 7 A4 c4 w2 _ HAD.out hb2 b4 HO4.out
   ·have HAD:Hid (Lfc.added l o=(l++[o],0)):=Lib.hid (by rw[HAD0.out];simp[h5])
    have h5i:(l.length:Int)<512:=by omega
    have h5d:decide (512≤l.length)=false:=by simpa using h5
    have hlm:l.length+1≤maxLen:=by unfold maxLen;omega
    have hl32:(l.length+1)*32≤140737488355328:=by omega
    have hone:∀u∈[S o.name,Value.int .i64 o.fix,.int .i64 o.prec],u.oneCell'=true:=by intro u hu;simp at hu;rcases hu with rfl | rfl | rfl <;> rfl
    go_enter Tryz.func49,Tryz.ntmps49
    go_upto_region 1 with fail
    rw[HWA.out]
    go_wp2_with fail
    refine CK.out.mono ?_
    rintro e w1⟨rfl,b1⟩
    have hb1:=aa _ _ (Below.refl _ _) b1
    go_wp2_with fail
    refine(CC.out w1 hb1).mono ?_
    rintro e w2⟨rfl,b2⟩
    have hb2:=aa _ _ hb1 b2
    go_wp2_with fail
    refine(CL.out w2 hb2).mono ?_
    rintro e w4⟨A4,c4,rfl,HO4,b4⟩
    have hb4:=aa _ _ hb2 b4
    have hs4:=b4.size
    obtain⟨u0,u1,u2⟩:=FC.out w4 hb4
    go_wp2_with (at_builtin;refine wpList_append_own_at _ rfl _ _ 26 rfl w2.heap.size 34 i0 (.agg #[S [],.int .i64 0,.int .i64 0]) 3 32 Tryz.underlying26 hi hz0 hz1 hz2 rfl (by decide) _ _ _ rfl (HO4.out.alloc _) ⟨w4.heap.size,0,none⟩ 1 1 [S o.name,.int .i64 o.fix,.int .i64 o.prec] rfl rfl (fun j u h=>cells_new w4 _ rfl [S o.name,.int .i64 o.fix,.int .i64 o.prec] 34 j u h) hone hlm hl32 (alloc_le hs4) ?_)
    intro v8 w8 hown8 hg8 _ _
    obtain⟨A8,c8,rfl⟩:=own_form hown8
    have HF:Hid (AddPostN w l o (.returned (.tuple #[.slice A8 (l.length+1) c8,.int .i64 0])) w8):=Lib.hid (by
     have e1:opCells (l++[o])=opCells l++[S o.name,.int .i64 o.fix,.int .i64 o.prec]:=by rw[opCells_app];rfl
     have ho:w8.ownsRow w2.heap.size 34 3 (.slice A8 (l++[o]).length c8) (l++[o]).length (opCells (l++[o])):=by rw[e1,List.length_append];exact hown8
     have bz:Below w2.heap.size w2 w8:=(b4.trans (((Below.refl _ _).alloc (Nat.le_refl _) _).mono hs4)).grown hg8 (by simp;omega) (own_block_ge HO4.out)
     unfold AddPostN
     rw[HAD.out]
     refine⟨⟨A8,c8,by simp,OpsAt.of_own (fun x hx=>?_) ho,fun a e=>by have h1:=ho.lt a.block (by show Value.ownBlock (.slice A8 (l++[o]).length c8)=_;rw[e];rfl);have h2:=hb2.size;have h3:=BA.out.size;omega⟩,BA.out.trans ((hb2.trans (bz.mono hb2.size)).mono BA.out.size)⟩
     rcases List.mem_append.1 hx with hx | hx
     ·exact HN.out x hx
     ·simp at hx;subst hx;exact hn)
    clear hown8 hg8
    go_wp2_with fail
    go_ret2
    exact HF.out
  ·have HAD:Hid (Lfc.added l o=(l,30)):=Lib.hid (by rw[HAD0.out];simp)
   go_enter Tryz.func49,Tryz.ntmps49
   go_upto_region 1 with fail
   rw[HWA.out]
   go_wp2_with fail
   refine CK.out.mono ?_
   rintro e w1⟨rfl,b1⟩
   have hb1:=aa _ _ (Below.refl _ _) b1
   go_wp2_with fail
   refine(CC.out w1 hb1).mono ?_
   rintro e w2⟨rfl,b2⟩
   have hb2:=aa _ _ hb1 b2
   go_wp2_with fail
   refine(CL.out w2 hb2).mono ?_
   rintro e w4⟨A4,c4,rfl,HO4,b4⟩
   go_wp2_with fail
   go_ret2
   exact fin0.out 30 A4 c4 w2 _ HAD.out hb2 b4 HO4.out
 ·have HAD:Hid (Lfc.added l o=(l,z)):=Lib.hid (by rw[HAD0.out];simp[hz])
  have hz2:(z != 0)=true:=by simpa using hz
  have hz3:(z == 0)=false:=by simpa using hz
  clear hz
  go_enter Tryz.func49,Tryz.ntmps49
  go_upto_region 1 with fail
  rw[HWA.out]
  go_wp2_with fail
  refine CK.out.mono ?_
  rintro e w1⟨rfl,b1⟩
  have hb1:=aa _ _ (Below.refl _ _) b1
  go_wp2_with fail
  refine(CL.out w1 hb1).mono ?_
  rintro e w4⟨A4,c4,rfl,HO4,b4⟩
  go_wp2_with fail
  go_ret2
  exact fin0.out z A4 c4 w1 _ HAD.out hb1 b4 HO4.out
theorem opAdd_any(l:List Lfc.Op)(o:Lfc.Op)(A:Option Addr)(c:Nat)(w:World)(hl:l.length≤1000000)(hn:o.name.length≤1000000)(h:OpsAt w A l) :
  Calls Tryz.prog 49 #[.slice A l.length c,opV o] w (AddPost w l o):=(opAdd_new l o A c w hl hn h).mono fun e w' ⟨⟨A',c',h1,h2,_⟩,h3⟩=>⟨⟨A',c',h1,h2⟩,h3⟩
end Go.Proofs.YthajalgkjonaaaaGreatDoor
namespace Go.Proofs.YthajalgkjonaaaaGreatDoor
open Go.RowKit
structure Hd where
 A:Option Addr
 c:Nat
 B:Option Addr
 d:Nat
def PW(w:World)(P:Nat)(G:Hd)(p:Lfc.PE)(k:Nat):Prop :=
 w.heap[P]?=some (.cells #[.slice G.A p.toks.length G.c,.int .i64 (k:Int),.int .i64 (p.fin:Int),.slice G.B p.ops.length G.d] 96 (0,0))∧TokAt w (.slice G.A p.toks.length G.c) p.toks∧OpsAt w G.B p.ops
structure POk(p:Lfc.PE):Prop where
 len:p.toks.length≤20000
 fin:p.fin≤65536
 ops:p.ops.length≤1000000
 tok:∀t∈p.toks,t.text.length≤65536∧(t.kind=1→t.text≠[])
abbrev Flt(e:Int)(a:Nat):Ending:=.panicked [{ v:=.iface 125 (.agg #[.int .i64 e,.int .i64 (a:Int)]),recovered:=false }]
def PRes{α:Type}(P:Nat)(G:Hd)(p:Lfc.PE)(w:World)(V:α→Value→World→Prop):Lfc.PR α→Ending→World→Prop
 |.out,_,_=>True
 |.err c a,e,w'=>e=Flt c a∧Oth P w w'
 |.ok x k,e,w'=>(∃v,e=.returned v∧V x v w')∧PW w' P G p k∧Oth P w w'
theorem PW.lt{w:World}{P k:Nat}{G:Hd}{p:Lfc.PE}(h:PW w P G p k):P<w.heap.size:=by
 obtain⟨h,_⟩:=h
 rcases Nat.lt_or_ge P w.heap.size with h1 | h1
 ·exact h1
 ·rw[Array.getElem?_eq_none h1] at h;cases h
theorem PW.below{w w':World}{P k:Nat}{G:Hd}{p:Lfc.PE}(h:PW w P G p k)(hb:Below w.heap.size w w'):PW w' P G p k:=by
 have hl:=h.lt
 obtain⟨h,ht,ho⟩:=h
 exact⟨(hb.block P hl).trans h,ht.below hb,ho.below hb⟩
theorem PE.pk_of{p:Lfc.PE}{k:Nat}(h:k<p.toks.length):p.toks[k]?=some (p.pk k):=by
 unfold Lfc.PE.pk
 rw[List.getD_eq_getElem?_getD,List.getElem?_eq_getElem h];rfl
theorem PE.pk_end{p:Lfc.PE}:p.pk p.toks.length=⟨0,[],p.fin⟩:=by
 unfold Lfc.PE.pk
 rw[List.getD_eq_getElem?_getD,List.getElem?_eq_none (Nat.le_refl _)];rfl
theorem tok_size:(Tryz.prog.info? 65).map (·.size)=some 3:=by kernel_rfl
theorem results_tok{fn:Func}{p:Tmp}(h:fn.results=#[.cell p 65])(tmps:Array Value)(w:World)(g:Nat)(v0 v1 v2:Value)(hp:tmps.getD p undef=.pointer (some ⟨g,0,none⟩))(hg:w.heap[g]?=some (.cells #[v0,v1,v2] 65 (0,0))) :
  (results fn tmps).run Tryz.prog w=.ok (.agg #[v0,v1,v2]) w :=
 results_cell_row h tmps w g _ _ _ _ hp hg Tryz.underlying65 rfl tok_size
theorem tok_f0(a b c:Value)(w:World):(Instr.field 65 (.agg #[a,b,c]) 0).run Tryz.prog w=.ok a w:=by kernel_rfl
theorem tok_f1(a b c:Value)(w:World):(Instr.field 65 (.agg #[a,b,c]) 1).run Tryz.prog w=.ok b w:=by kernel_rfl
theorem tok_f2(a b c:Value)(w:World):(Instr.field 65 (.agg #[a,b,c]) 2).run Tryz.prog w=.ok c w:=by kernel_rfl
theorem pfail_any(e:Int)(a:Nat)(w:World):Calls Tryz.prog 66 #[.int .i64 e,.int .i64 (a:Int)] w fun e' w'=>e'=Flt e a∧w'=w:=by
 go_enter Tryz.func66,Tryz.ntmps66
 go_wp2_with fail
 exact⟨rfl,rfl,rfl⟩
set_option maxRecDepth 100000 in
set_option maxHeartbeats 2000000 in
theorem peek_any{P k:Nat}{G:Hd}{p:Lfc.PE}(w:World)(h:PW w P G p k)(hk:k≤p.toks.length)(ok:POk p):Calls Tryz.prog 63 #[.pointer (some ⟨P,0,none⟩)] w fun e w'=>e=.returned (.agg #[.int .i64 (p.pk k).kind,S (p.pk k).text,.int .i64 ((p.pk k).pos:Int)])∧Below w.heap.size w w':=by
 have hl:=h.lt
 obtain⟨A,c,B,d⟩:=G
 obtain⟨hh,⟨A',c',e',hc,ht⟩,ho⟩:=h
 simp only at hh e'
 cases e'
 have hlen:=ok.len
 have hfin:=ok.fin
 obtain⟨wa,hwa⟩:∃wa,w.alloc (.cells #[.int .i64 0,S [],.int .i64 0] 65)=wa:=⟨_,rfl⟩
 have ba:Below w.heap.size w wa:=by rw[←hwa];exact(Below.refl _ _).alloc (Nat.le_refl _) _
 have qa:wa.heap[w.heap.size]?=some (.cells #[.int .i64 0,S [],.int .i64 0] 65 (0,0)):=by rw[←hwa];exact heap_alloc_new _ _
 have ha:=(ba.block P hl).trans hh
 have x0:wa.cell? ⟨P,0,none⟩=some (.slice A p.toks.length c):=Lib.cell_of_heap ha 0
 have x1:wa.cell? ⟨P,1,none⟩=some (.int .i64 (k:Int)):=Lib.cell_of_heap ha 1
 have x2:wa.cell? ⟨P,2,none⟩=some (.int .i64 (p.fin:Int)):=Lib.cell_of_heap ha 2
 clear hh ho ok ha
 by_cases hz:k=p.toks.length
 ·have HP:=Lib.hid (PE.pk_end (p:=p))
  rw[hz,HP.out]
  rw[hz] at x1
  obtain⟨s1,s2,s3,e1,e2,e3,⟨y0,y1,y2⟩,⟨f0,f1,f2⟩,hq,ho⟩:=put3 (W:=wa.drew) qa (.int .i64 0) (S []) (.int .i64 (p.fin:Int))
  have HO:=Lib.hid ho
  have HQ:=Lib.hid hq
  have BA:=Lib.hid ba
  have hs:=eq2 (show wa.heap.size=w.heap.size+1 by rw[←hwa];simp)
  clear ht hz hk ho hq ba
  go_enter Tryz.func63,Tryz.ntmps63
  go_upto_region 1 with fail
  clear hwa qa
  go_region
  go_wp2_with fail
  exact bodyPost_ret (results_tok rfl _ _ _ _ _ _ rfl HQ.out) rfl ⟨rfl,Oth.below BA.out (Oth.trans (Oth.refl _ _).drew HO.out) (by omega) (by omega)⟩
 ·have hlt:k<p.toks.length:=by omega
  obtain⟨b,o,rfl,hb,hcell⟩:=ht (by omega)
  obtain⟨t0,t1,t2⟩:=hcell k _ (PE.pk_of hlt)
  replace t0:=(ba.cell (p:=⟨b,_,none⟩) hb).trans t0
  replace t1:=(ba.cell (p:=⟨b,_,none⟩) hb).trans t1
  replace t2:=(ba.cell (p:=⟨b,_,none⟩) hb).trans t2
  generalize p.pk k=t at *
  obtain⟨s1,s2,s3,e1,e2,e3,⟨y0,y1,y2⟩,⟨f0,f1,f2⟩,hq,ho⟩:=put3 (W:=wa.drew.drew) qa (.int .i64 t.kind) (S t.text) (.int .i64 (t.pos:Int))
  have HO:=Lib.hid ho
  have HQ:=Lib.hid hq
  have BA:=Lib.hid ba
  have hs:=eq2 (show wa.heap.size=w.heap.size+1 by rw[←hwa];simp)
  clear hcell ht ba ho hq
  go_enter Tryz.func63,Tryz.ntmps63
  go_upto_region 1 with fail
  clear hwa qa
  go_region
  go_wp2_with fail
  go_region
  go_wp2_with fail
  exact bodyPost_ret (results_tok rfl _ _ _ _ _ _ rfl HQ.out) rfl ⟨rfl,Oth.below BA.out (Oth.trans (Oth.refl _ _).drew.drew HO.out) (by omega) (by omega)⟩
theorem noStr{w:World}{P:Nat}{a b c d:Value}{t:TypeId}(h:w.heap[P]?=some (.cells #[a,b,c,d] t (0,0)))(ha:∀s,a≠S s)(hb:∀s,b≠S s)(hc:∀s,c≠S s)(hd:∀s,d≠S s)(j:Nat)(s:List UInt8):w.cell? ⟨P,j,none⟩≠some (S s):=by
 rw[Lib.cell_of_heap h j]
 match j with
 |0=>intro e;exact ha s (by simpa using e)
 |1=>intro e;exact hb s (by simpa using e)
 |2=>intro e;exact hc s (by simpa using e)
 |3=>intro e;exact hd s (by simpa using e)
 |j+4=>simp
theorem PW.noStr{w:World}{P k:Nat}{G:Hd}{p:Lfc.PE}(h:PW w P G p k)(j:Nat)(s:List UInt8):w.cell? ⟨P,j,none⟩≠some (S s):=by
 obtain⟨h,_⟩:=h
 exact Go.Proofs.YthajalgkjonaaaaGreatDoor.noStr h (by simp) (by simp) (by simp) (by simp) j s
theorem TokAt.oth{w w':World}{P:Nat}{v:Value}{l:List Lfc.Tok}(h:TokAt w v l)(hn:∀j s,w.cell? ⟨P,j,none⟩≠some (S s))(ho:Oth P w w'):TokAt w' v l:=by
 obtain⟨A,c,rfl,h1,h2⟩:=h
 refine⟨A,c,rfl,h1,fun hp=>?_⟩
 obtain⟨b,o,hA,hlt,hc⟩:=h2 hp
 have hb:b≠P:=fun e=>by
  obtain⟨_,c1,_⟩:=hc 0 _ (List.getElem?_eq_getElem hp)
  rw[e] at c1
  exact hn _ _ c1
 refine⟨b,o,hA,Nat.lt_of_lt_of_le hlt ho.size,fun k t ht=>?_⟩
 obtain⟨c0,c1,c2⟩:=hc k t ht
 exact⟨(ho.cell (p:=⟨b,_,none⟩) hlt hb).trans c0,(ho.cell (p:=⟨b,_,none⟩) hlt hb).trans c1,(ho.cell (p:=⟨b,_,none⟩) hlt hb).trans c2⟩
theorem OpsAt.oth{w w':World}{P:Nat}{A:Option Addr}{l:List Lfc.Op}(h:OpsAt w A l)(hn:∀j s,w.cell? ⟨P,j,none⟩≠some (S s))(ho:Oth P w w'):OpsAt w' A l:=⟨h.1,fun hne=>by
 obtain⟨b,o,hA,hlt,hc⟩:=h.2 hne
 have hb:b≠P:=fun e=>by
  obtain⟨c0,_⟩:=hc 0 (List.length_pos_iff.2 hne)
  rw[e] at c0
  exact hn _ _ c0
 refine⟨b,o,hA,Nat.lt_of_lt_of_le hlt ho.size,fun i hi=>?_⟩
 obtain⟨c0,c1,c2⟩:=hc i hi
 exact⟨(ho.cell (p:=⟨b,_,none⟩) hlt hb).trans c0,(ho.cell (p:=⟨b,_,none⟩) hlt hb).trans c1,(ho.cell (p:=⟨b,_,none⟩) hlt hb).trans c2⟩⟩
theorem PW.step{w:World}{P k:Nat}{G:Hd}{p:Lfc.PE}(h:PW w P G p k)(k':Nat):PW (w.setCell ⟨P,1,none⟩ (.int .i64 (k':Int))) P G p k':=by
 have hn:=h.noStr
 have ho:Oth P w (w.setCell ⟨P,1,none⟩ (.int .i64 (k':Int))):=Oth.set w _
 obtain⟨h,ht,hp⟩:=h
 exact⟨by simp[World.setCell,Array.getElem?_modify,h],ht.oth hn ho,hp.oth hn ho⟩
theorem PW.to{w w':World}{P k:Nat}{G:Hd}{p:Lfc.PE}(h:PW w P G p k){k':Nat}(ho:Oth P w w')(hc:w'.heap[P]?=some (.cells #[.slice G.A p.toks.length G.c,.int .i64 (k':Int),.int .i64 (p.fin:Int),.slice G.B p.ops.length G.d] 96 (0,0))):PW w' P G p k' :=
 ⟨hc,h.2.1.oth h.noStr ho,h.2.2.oth h.noStr ho⟩
theorem PW.drew{w:World}{P k:Nat}{G:Hd}{p:Lfc.PE}(h:PW w P G p k):PW w.drew P G p k:=h
set_option maxRecDepth 100000 in
set_option maxHeartbeats 2000000 in
theorem is_any{P k:Nat}{G:Hd}{p:Lfc.PE}(kind:Int)(s:List UInt8)(w:World)(h:PW w P G p k)(hk:k≤p.toks.length)(ok:POk p):Calls Tryz.prog 140 #[.pointer (some ⟨P,0,none⟩),.int .i64 kind,S s] w fun e w'=>e=.returned (.bool (p.is k kind s))∧Below w.heap.size w w':=by
 have hq:=peek_any w h hk ok
 unfold Lfc.PE.is
 generalize p.pk k=t at *
 clear h ok hk
 have HQ:=Lib.hid hq
 clear hq
 by_cases h1:t.kind=kind
 ·have h1':=beq_iff_eq.2 h1
  rw[decide_eq_true h1]
  clear h1
  by_cases h2:t.text=s
  ·rw[decide_eq_true h2,←h2]
   clear h2
   go_enter Tryz.func140,Tryz.ntmps140
   go_wp2_with (go_at_call 63;refine HQ.out.mono ?_;rintro e w1⟨rfl,b1⟩)
   exact bodyPost_ret (by simp[results,Tryz.results140,go_sem]) rfl ⟨rfl,b1.alloc b1.size _⟩
  ·rw[decide_eq_false h2]
   have h2':(t.text == s)=false:=beq_eq_false_iff_ne.2 h2
   go_enter Tryz.func140,Tryz.ntmps140
   go_wp2_with (go_at_call 63;refine HQ.out.mono ?_;rintro e w1⟨rfl,b1⟩)
   exact bodyPost_ret (by simp[results,Tryz.results140,go_sem,h2']) rfl ⟨rfl,b1.alloc b1.size _⟩
 ·rw[decide_eq_false h1]
  have h1':(t.kind == kind)=false:=beq_eq_false_iff_ne.2 h1
  clear h1
  go_enter Tryz.func140,Tryz.ntmps140
  go_wp2_with (go_at_call 63;refine HQ.out.mono ?_;rintro e w1⟨rfl,b1⟩)
  exact bodyPost_ret (by simp[results,Tryz.results140,go_sem]) rfl ⟨rfl,b1.alloc b1.size _⟩
set_option maxRecDepth 100000 in
set_option maxHeartbeats 2000000 in
theorem take_any{P k:Nat}{G:Hd}{p:Lfc.PE}(kind:Int)(s:List UInt8)(w:World)(h:PW w P G p k)(hk:k≤p.toks.length)(ok:POk p):Calls Tryz.prog 139 #[.pointer (some ⟨P,0,none⟩),.int .i64 kind,S s] w fun e w'=>e=.returned (.bool (p.is k kind s))∧PW w' P G p (if p.is k kind s then k+1 else k)∧Oth P w w':=by
 have hq:=is_any kind s w h hk ok
 have hl:=h.lt
 have hlen:=ok.len
 have H:=Lib.hid h
 cases hz:p.is k kind s
 ·rw[hz] at hq
  have HQ:=Lib.hid hq
  clear hq hz h
  go_enter Tryz.func139,Tryz.ntmps139
  go_wp2_with (go_at_call 140;refine HQ.out.mono ?_;rintro e w1⟨rfl,b1⟩)
  exact bodyPost_ret (by simp[results,Tryz.results139,go_sem]) rfl ⟨rfl,H.out.below b1,Oth.of_below b1⟩
 ·rw[hz] at hq
  have HQ:=Lib.hid hq
  clear hq hz h
  go_enter Tryz.func139,Tryz.ntmps139
  go_wp2_with (go_at_call 140;refine HQ.out.mono ?_;rintro e w1⟨rfl,b1⟩;have h1:=H.out.below b1;obtain⟨hh,_⟩:=id h1;have x1:w1.cell? ⟨P,1,none⟩=some (.int .i64 (k:Int)):=Lib.cell_of_heap hh 1;have f1:=Lib.frozen_of_heap hh 1;have H1:=Lib.hid h1;clear h1 hh)
  have h2:=H1.out.step (k+1)
  rw[show((k+1:Nat):Int)=(k:Int)+1 by omega] at h2
  exact bodyPost_ret (by simp[results,Tryz.results139,go_sem]) rfl ⟨rfl,h2,(Oth.of_below b1).trans (Oth.set _ _)⟩
def _root_.Lfc.PE.ux(p:Lfc.PE)(k:Nat):Int × Nat:=if k=p.toks.length then(24,p.fin) else(20,(p.pk k).pos)
theorem unexp_eq{α:Type}(p:Lfc.PE)(k:Nat):(p.unexp k:Lfc.PR α)=.err (p.ux k).1 (p.ux k).2:=by
 unfold Lfc.PE.unexp Lfc.PE.ux
 split <;> rfl
set_option maxRecDepth 100000 in
set_option maxHeartbeats 2000000 in
theorem unexpected_any{P k:Nat}{G:Hd}{p:Lfc.PE}(w:World)(h:PW w P G p k)(hk:k≤p.toks.length)(ok:POk p):Calls Tryz.prog 36 #[.pointer (some ⟨P,0,none⟩)] w fun e w'=>e=Flt (p.ux k).1 (p.ux k).2∧Below w.heap.size w w':=by
 have hq:=peek_any w.drew h.drew hk ok
 have hl:=h.lt
 obtain⟨A,c,B,d⟩:=G
 obtain⟨hh,_⟩:=h
 have hlen:=ok.len
 have x0:w.cell? ⟨P,0,none⟩=some (.slice A p.toks.length c):=Lib.cell_of_heap hh 0
 have x1:w.cell? ⟨P,1,none⟩=some (.int .i64 (k:Int)):=Lib.cell_of_heap hh 1
 have x2:w.cell? ⟨P,2,none⟩=some (.int .i64 (p.fin:Int)):=Lib.cell_of_heap hh 2
 have HQ:=Lib.hid hq
 clear hh hq ok
 by_cases hz:k=p.toks.length
 ·have HX:Hid (p.ux k=(24,p.fin)):=Lib.hid (if_pos hz)
  rw[HX.out]
  rw[hz] at x1
  clear hz hk
  go_enter Tryz.func36,Tryz.ntmps36
  go_wp2_with fail
  go_region
  go_wp2_with (go_at_call 66;refine(pfail_any _ _ _).mono ?_;rintro e w1⟨rfl,rfl⟩)
  exact⟨rfl,rfl,(Below.refl _ _).drew⟩
 ·have HX:Hid (p.ux k=(20,(p.pk k).pos)):=Lib.hid (if_neg hz)
  rw[HX.out]
  have hf2:=tok_f2
  go_enter Tryz.func36,Tryz.ntmps36
  go_wp2_with fail
  go_region
  go_wp2_with (first | (go_at_call 66;refine(pfail_any _ _ _).mono ?_;rintro e w1⟨rfl,rfl⟩) | (go_at_call 63;refine HQ.out.mono ?_;rintro e w1⟨rfl,b1⟩))
  exact⟨rfl,rfl,(Below.refl _ _).drew.trans (b1.mono (by simp))⟩
set_option maxRecDepth 100000 in
set_option maxHeartbeats 2000000 in
theorem punct_any{P k:Nat}{G:Hd}{p:Lfc.PE}(s:List UInt8)(w:World)(h:PW w P G p k)(hk:k≤p.toks.length)(ok:POk p):Calls Tryz.prog 141 #[.pointer (some ⟨P,0,none⟩),S s] w (PRes P G p w (fun _ v _=>v=.tuple #[]) (p.punct k s)):=by
 have hq:=take_any 2 s w h hk ok
 unfold Lfc.PE.punct
 rw[unexp_eq]
 cases hz:p.is k 2 s
 ·simp only[hz,if_true,Bool.false_eq_true,if_false] at hq
  have HQ:=Lib.hid hq
  have HU:Hid (∀W,PW W P G p k→Calls Tryz.prog 36 #[.pointer (some ⟨P,0,none⟩)] W fun e w'=>e=Flt (p.ux k).1 (p.ux k).2∧Below W.heap.size W w'):=Lib.hid fun W hW=>unexpected_any W hW hk ok
  clear hq hz
  go_enter Tryz.func141,Tryz.ntmps141
  go_wp2_with (first | (go_at_call 139;refine HQ.out.mono ?_;rintro e w1⟨rfl,h1,o1⟩) | (go_at_call 36;refine(HU.out _ h1).mono ?_;rintro e w2⟨rfl,b2⟩))
  exact⟨rfl,rfl,o1.trans (Oth.of_below b2)⟩
 ·simp only[hz,if_true,Bool.false_eq_true,if_false] at hq
  have HQ:=Lib.hid hq
  clear hq hz
  go_enter Tryz.func141,Tryz.ntmps141
  go_wp2_with (go_at_call 139;refine HQ.out.mono ?_;rintro e w1⟨rfl,h1,o1⟩)
  go_end0
  exact⟨⟨_,rfl,rfl⟩,h1,o1⟩
set_option maxRecDepth 100000 in
set_option maxHeartbeats 2000000 in
theorem isName_at{P k:Nat}{G:Hd}{p:Lfc.PE}(w:World)(h:PW w P G p k)(hk:k≤p.toks.length)(ok:POk p):Calls Tryz.prog 72 #[.pointer (some ⟨P,0,none⟩)] w fun e w'=>e=.returned (.bool (p.isNm k))∧Below w.heap.size w w':=by
 have hq:=peek_any w h hk ok
 have hn:∀W,Calls Tryz.prog 80 #[S (p.pk k).text] W fun e w'=>e=.returned (.bool (Lfc.isName (p.pk k).text))∧W=w':=fun W=>isName_any _ W (by
  rcases Nat.lt_or_ge k p.toks.length with h1 | h1
  ·have:=(ok.tok _ (List.mem_of_getElem? (PE.pk_of h1))).1
   omega
  ·obtain rfl:k=p.toks.length:=by omega
   rw[PE.pk_end];simp)
 unfold Lfc.PE.isNm
 generalize p.pk k=t at *
 clear h ok hk
 have HQ:=Lib.hid hq
 have HN:=Lib.hid hn
 clear hq hn
 by_cases h1:t.kind=1
 ·have h1':(t.kind == 1)=true:=beq_iff_eq.2 h1
  rw[decide_eq_true h1]
  clear h1
  go_enter Tryz.func72,Tryz.ntmps72
  go_wp2_with (first | (go_at_call 63;refine HQ.out.mono ?_;rintro e w1⟨rfl,b1⟩) | (go_at_call 80;refine(HN.out _).mono ?_;rintro e w2⟨rfl,rfl⟩))
  refine bodyPost_ret (by simp[results,Tryz.results72,go_sem];rfl) rfl ⟨by simp,b1.alloc b1.size _⟩
 ·have h1':(t.kind == 1)=false:=beq_eq_false_iff_ne.2 h1
  rw[decide_eq_false h1]
  clear h1
  go_enter Tryz.func72,Tryz.ntmps72
  go_wp2_with (first | (go_at_call 63;refine HQ.out.mono ?_;rintro e w1⟨rfl,b1⟩) | (go_at_call 80;refine(HN.out _).mono ?_;rintro e w2⟨rfl,rfl⟩))
  refine bodyPost_ret (by simp[results,Tryz.results72,go_sem];rfl) rfl ⟨by simp,b1.alloc b1.size _⟩
theorem PW.cells{w:World}{P k:Nat}{G:Hd}{p:Lfc.PE}(h:PW w P G p k):w.cell? ⟨P,0,none⟩=some (.slice G.A p.toks.length G.c)∧w.cell? ⟨P,1,none⟩=some (.int .i64 (k:Int))∧w.cell? ⟨P,2,none⟩=some (.int .i64 (p.fin:Int))∧w.cell? ⟨P,3,none⟩=some (.slice G.B p.ops.length G.d) ∧
  (∀j,w.frozen? ⟨P,j,none⟩=false)∧p.toks.length≤G.c∧OpsAt w G.B p.ops∧(∀i,i<p.toks.length→∃b o,G.A=some ⟨b,o,none⟩∧b<w.heap.size∧w.cell? ⟨b,o+i*3,none⟩=some (.int .i64 (p.pk i).kind)∧w.cell? ⟨b,o+i*3+1,none⟩=some (S (p.pk i).text)∧w.cell? ⟨b,o+i*3+2,none⟩=some (.int .i64 ((p.pk i).pos:Int))):=by
 obtain⟨A,c,B,d⟩:=G
 obtain⟨hh,⟨A',c',e',hc,ht⟩,ho⟩:=h
 simp only at hh e' ho ⊢
 cases e'
 refine⟨Lib.cell_of_heap hh 0,Lib.cell_of_heap hh 1,Lib.cell_of_heap hh 2,Lib.cell_of_heap hh 3,fun j=>Lib.frozen_of_heap hh j,hc,ho,fun i hi=>?_⟩
 obtain⟨b,o,hA,hb,hcell⟩:=ht (by omega)
 obtain⟨t0,t1,t2⟩:=hcell i _ (PE.pk_of hi)
 exact⟨b,o,hA,hb,t0,t1,t2⟩
set_option maxRecDepth 100000 in
set_option maxHeartbeats 2000000 in
theorem name_at{P k:Nat}{G:Hd}{p:Lfc.PE}(w:World)(h:PW w P G p k)(hk:k≤p.toks.length)(ok:POk p):Calls Tryz.prog 138 #[.pointer (some ⟨P,0,none⟩)] w (PRes P G p w (fun n v _=>v=S n) (p.name k)):=by
 have hq:=isName_at w h hk ok
 have hlen:=ok.len
 unfold Lfc.PE.name
 rw[unexp_eq]
 cases hz:p.isNm k
 ·simp only[hz,if_true,Bool.false_eq_true,if_false] at hq ⊢
  have HQ:=Lib.hid hq
  have H:=Lib.hid h
  have HU:Hid (∀W,PW W P G p k→Calls Tryz.prog 36 #[.pointer (some ⟨P,0,none⟩)] W fun e w'=>e=Flt (p.ux k).1 (p.ux k).2∧Below W.heap.size W w'):=Lib.hid fun W hW=>unexpected_any W hW hk ok
  clear hq hz
  go_enter Tryz.func138,Tryz.ntmps138
  go_wp2_with (first | (go_at_call 72;refine HQ.out.mono ?_;rintro e w1⟨rfl,b1⟩) | (go_at_call 36;refine(HU.out _ (H.out.below b1)).mono ?_;rintro e w2⟨rfl,b2⟩))
  exact⟨rfl,rfl,(Oth.of_below b1).trans (Oth.of_below b2)⟩
 ·have hlt:=p.nm_lt hz
  simp only[hz,if_true,Bool.false_eq_true,if_false] at hq ⊢
  have HQ:=Lib.hid hq
  have H:=Lib.hid h
  clear hq hz h ok
  go_enter Tryz.func138,Tryz.ntmps138
  go_upto_region 3 with(go_at_call 72;refine HQ.out.mono ?_;rintro e w1⟨rfl,b1⟩)
  have h1:=H.out.below b1
  have h2:=h1.step (k+1)
  rw[show((k+1:Nat):Int)=(k:Int)+1 by omega] at h2
  obtain⟨x0,x1,x2,x3,xf,_,_,_⟩:=h1.cells
  have xf1:=xf 1
  have o2:Oth P w1 (w1.setCell ⟨P,1,none⟩ (.int .i64 ((k:Int)+1))):=Oth.set w1 _
  obtain⟨w2,hw2⟩:∃w2,w1.setCell ⟨P,1,none⟩ (.int .i64 ((k:Int)+1))=w2:=⟨_,rfl⟩
  rw[hw2] at h2 o2
  obtain⟨y0,y1,y2,y3,yf,hc,_,ht⟩:=h2.cells
  obtain⟨b,o,hA,hb,t0,t1,t2⟩:=ht k hlt
  rw[hA] at y0
  have H2:=Lib.hid h2
  have O2:=Lib.hid ((Oth.of_below b1).trans o2)
  clear h1 h2 xf x0 x2 x3 y2 y3 yf ht t0 t2 o2 b1
  rw[show((k+1:Nat):Int)=(k:Int)+1 by omega] at y1
  go_wp2_with fail
  go_region
  go_wp2_with fail
  exact bodyPost_ret (v:=S (p.pk k).text) (by simp[results,Tryz.results138,go_sem]) rfl ⟨⟨_,rfl,rfl⟩,H2.out.drew,O2.out.drew⟩
end Go.Proofs.YthajalgkjonaaaaGreatDoor
