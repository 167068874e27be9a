/- Parts of the proof that no input makes the law false: OwnTerm, OrLink, OrUp, OrChain, OrArg, OrBoth, OrGrow. -/
import Derived.Deep.RegionHeld3
import Derived.Lib.AppendZerosOnto
import Derived.Laws.AppendOwnNone
import Derived.Test.YtadjpadieljjlaaGreatIvAE
set_option linter.unusedVariables false
set_option linter.unusedSimpArgs false
set_option maxRecDepth 100000
set_option maxHeartbeats 32000000
namespace Go.Proofs.YtadjpadieljjlaaGreat
open Go.RowKit
theorem tput4row {W:World} {g i:Nat} {xs:List Value} {cur:Array Value} {t:TypeId} (h:W.heap[g]?=some (.cells cur t (0,0))) (hc:CellsAt W g 0 xs) (hi:i*4+3<xs.length) (v0 v1 v2 v3:Value):∃s1 s2 s3 s4 a0 a1 a2 a3,W.setCell ⟨g,i*4,none⟩ v0=s1∧s1.setCell ⟨g,i*4+1,none⟩ v1=s2∧s2.setCell ⟨g,i*4+2,none⟩ v2=s3∧s3.setCell ⟨g,i*4+3,none⟩ v3=s4 ∧
  (W.cell? ⟨g,i*4,none⟩=some a0∧s1.cell? ⟨g,i*4+1,none⟩=some a1∧s2.cell? ⟨g,i*4+2,none⟩=some a2∧s3.cell? ⟨g,i*4+3,none⟩=some a3) ∧
  (W.frozen? ⟨g,i*4,none⟩=false∧s1.frozen? ⟨g,i*4+1,none⟩=false∧s2.frozen? ⟨g,i*4+2,none⟩=false∧s3.frozen? ⟨g,i*4+3,none⟩=false) ∧
  CellsAt s4 g 0 ((((xs.set (i*4) v0).set (i*4+1) v1).set (i*4+2) v2).set (i*4+3) v3)∧Oth g W s4∧(∃cur2,s4.heap[g]?=some (.cells cur2 t (0,0))):=by
 have fz:∀ (j:Nat) (V:World) (v:Value) (c:Array Value),V.heap[g]?=some (.cells c t (0,0))→(V.setCell ⟨g,j,none⟩ v).heap[g]?=some (.cells (c.set! j v) t (0,0)):=fun j V v c hV=>by simp [World.setCell,Array.getElem?_modify,hV]
 have c1:=hc.set (j0:=i*4) v0
 have c2:=c1.set (j0:=i*4+1) v1
 have c3:=c2.set (j0:=i*4+2) v2
 have c4:=c3.set (j0:=i*4+3) v3
 simp only [Nat.zero_add] at c1 c2 c3 c4
 have h1:=fz (i*4) W v0 _ h
 have h2:=fz (i*4+1) _ v1 _ h1
 have h3:=fz (i*4+2) _ v2 _ h2
 have h4:=fz (i*4+3) _ v3 _ h3
 have e0:=hc (i*4) _ (List.getElem?_eq_getElem (by omega))
 have e1:=c1 (i*4+1) _ (List.getElem?_eq_getElem (by simp;omega))
 have e2:=c2 (i*4+2) _ (List.getElem?_eq_getElem (by simp;omega))
 have e3:=c3 (i*4+3) _ (List.getElem?_eq_getElem (by simp;omega))
 rw [Nat.zero_add] at e0 e1 e2 e3
 exact ⟨_,_,_,_,_,_,_,_,rfl,rfl,rfl,rfl,⟨e0,e1,e2,e3⟩,⟨zF h _,zF h1 _,zF h2 _,zF h3 _⟩,c4,(((Oth.set W v0).trans (Oth.set _ v1)).trans (Oth.set _ v2)).trans (Oth.set _ v3),_,h4⟩
theorem termInfo:(Tryz.prog.info? 51).map (fun i=>(i.zero,i.size,i.bytes))=some (some (.agg #[.int .i64 0,S [],.int .i64 0,.slice none 0 0]),4,56):=by kernel_rfl
def zeroT:Lfc.Raw:=.node 0 [] 0 []
def zeroRow (n:Nat):List Value:=(List.replicate n [Value.int .i64 0,S [],.int .i64 0,.slice none 0 0]).flatten
theorem zeroRow_len (n:Nat):(zeroRow n).length=n*4:=by simp [zeroRow]
theorem zeroRow_row (q:Nat→Prop) (w:World):∀n,RowP q w (List.replicate n zeroT) (zeroRow n)
 | 0=>by simp [zeroRow,RowP]
 | n+1=>by
  rw [List.replicate_succ,zeroRow,List.replicate_succ,List.flatten_cons,RowP]
  exact ⟨_,_,_,_,_,rfl,by rw [zeroT,TreeP];exact ⟨rfl,rfl,Nat.zero_le _,rfl,none,0,rfl,zN _,fun h=>absurd rfl h⟩,zeroRow_row q w n⟩
theorem zeroRow_get:∀ (n i:Nat),i<n*4→(zeroRow n)[i]?=[Value.int .i64 0,S [],.int .i64 0,.slice none 0 0][i % 4]?
 | 0,i,h=>by omega
 | n+1,i,h=>by
  have e:zeroRow (n+1)=[Value.int .i64 0,S [],.int .i64 0,.slice none 0 0]++zeroRow n:=by rw [zeroRow,List.replicate_succ,List.flatten_cons];rfl
  rw [e]
  by_cases hi:i<4
  ·rw [List.getElem?_append_left (by simpa using hi),Nat.mod_eq_of_lt hi]
  rw [List.getElem?_append_right (by simp;omega)]
  have:=zeroRow_get n (i-4) (by omega)
  rw [show (i-[Value.int .i64 0,S [],.int .i64 0,.slice none 0 0].length)=i-4 by rfl,this,show i % 4=(i-4) % 4 by omega]
theorem made_terms (n:Nat):madeCells (Value.agg #[.int .i64 0,S [],.int .i64 0,.slice none 0 0]).cells (n*4)=(zeroRow n).toArray:=by
 rw [show (Value.agg #[.int .i64 0,S [],.int .i64 0,.slice none 0 0]).cells=#[.int .i64 0,S [],.int .i64 0,.slice none 0 0] from rfl]
 apply Array.ext
 ·simp [madeCells,zeroRow_len]
 intro i h1 h2
 have hi:i<n*4:=by simpa [madeCells] using h1
 have hm:i % 4<4:=Nat.mod_lt _ (by decide)
 have h:=zeroRow_get n i hi
 rw [List.getElem?_eq_getElem (by rw [zeroRow_len];exact hi),List.getElem?_eq_getElem (by simpa using hm)] at h
 have h:=zO h
 have h3:=(List.getElem_toArray (xs:=zeroRow n) (i:=i) h2).trans h
 rw [h3]
 simp only [madeCells,Array.getElem_map,Array.getElem_range]
 rw [show (#[Value.int .i64 0,S [],.int .i64 0,.slice none 0 0]:Array Value).size=4 from rfl,getElem!_pos _ _ (by simpa using hm)]
 rfl
theorem makeTerms (n:Nat) (hn:n≤1000000) (W:World):(Instr.makeSlice 27 (.int .i64 (n:Int)) (.int .i64 (n:Int))).run Tryz.prog W=.ok (.slice (some ⟨W.heap.size,0,none⟩) n n) (W.alloc (.cells (zeroRow n).toArray 51)):=by
 obtain ⟨i0,hi,hz0,hz1,hz2⟩:=info_parts termInfo
 have hr:=run_make (P:=Tryz.prog) W 27 51 i0 (.agg #[.int .i64 0,S [],.int .i64 0,.slice none 0 0]) Tryz.underlying27 hi hz0 .i64 .i64 n n (by omega) (by omega) (by rw [hz2];omega) (by omega)
 simp only [Int.toNat_natCast,hz1,made_terms] at hr
 exact hr
theorem cellsAt_made (W:World) (xs:List Value) (t:TypeId):CellsAt (W.alloc (.cells xs.toArray t)) W.heap.size 0 xs:=by
 intro j u hj
 rw [zC (zW W _)]
 simpa using hj
theorem take_set (ts:List Lfc.Raw) (z:Lfc.Raw) (k:Nat) (h:k<ts.length):(ts.take k++List.replicate (ts.length-k) z).set k ts[k]=ts.take (k+1)++List.replicate (ts.length-(k+1)) z:=by
 have hl:(ts.take k).length=k:=by rw [List.length_take];omega
 obtain ⟨m,hm⟩:∃m,ts.length-k=m+1:=⟨ts.length-k-1,by omega⟩
 rw [List.set_append_right _ _ (by omega),hm,hl,Nat.sub_self,List.replicate_succ,List.set_cons_zero,show ts.length-(k+1)=m by omega,List.take_succ_eq_append_getElem h,List.append_assoc]
 rfl
def OwnUpto (m:Nat):Prop:=∀ (t:Lfc.Raw) (v:Value) (w:World),t.size≤m→TreeV w t v →
  Calls Tryz.prog 93 #[v] w fun e w'=>(∃v',e=.returned v'∧TreeVP (fun b=>w.heap.size≤b) w' t v')∧Below w.heap.size w w'
theorem TreeVP.openT {q:Nat→Prop} {w:World} {k p:Int} {n:List UInt8} {ts:List Lfc.Raw} {v:Value} (h:TreeVP q w (.node k n p ts) v):∃A c,v=.agg #[.int .i64 k,S n,.int .i64 p,.slice A ts.length c]∧TreeP q w (.node k n p ts) (.int .i64 k) (S n) (.int .i64 p) (.slice A ts.length c):=by
 obtain ⟨v0,v1,v2,v3,rfl,h⟩:=h
 have h':=h
 rw [TreeP] at h
 obtain ⟨rfl,rfl,_,rfl,A,c,rfl,_⟩:=h
 exact ⟨A,c,rfl,h'⟩
def OwnI (w w1:World) (ts:List Lfc.Raw) (k:Nat) (wr:World):Prop:=(∃xs,RowP (fun b=>w.heap.size<b) wr (ts.take k++List.replicate (ts.length-k) zeroT) xs∧CellsAt wr w.heap.size 0 xs)∧(∃cur,wr.heap[w.heap.size]?=some (.cells cur 51 (0,0)))∧Oth w.heap.size w1 wr
theorem ownTerms_any (m:Nat) (ih:OwnUpto m) (ts:List Lfc.Raw) (A:Option Addr) (c:Nat) (w:World) (hm:Lfc.Raw.sizes ts≤m) (hmax:ts.length≤1000000) (h:TreesAt w A ts) :
  Calls Tryz.prog 110 #[.slice A ts.length c] w fun e w'=>(∃A' c',e=.returned (.slice A' ts.length c')∧ts.length≤c'∧TreesAtP (fun b=>w.heap.size≤b) w' A' ts)∧Below w.heap.size w w':=by
 have HA:=zH h
 have IH:=zH ih
 clear h ih
 by_cases h0:ts.length=0
 ·obtain rfl:ts=[]:=List.length_eq_zero_iff.1 h0
  clear h0
  simp only [List.length_nil]
  go_enter Tryz.func110,Tryz.ntmps110
  go_wp2_with fail
  go_ret
  exact ⟨⟨none,0,rfl,zN _,fun h=>absurd rfl h⟩,zB _ _⟩
 have hz:((ts.length:Int) == 0)=false:=by simpa using h0
 have hz2:(ts.length == 0)=false:=by simpa using h0
 have hmk:=fun W=>makeTerms ts.length hmax W
 obtain ⟨w1,hw1⟩:∃w1,w.alloc (.cells (zeroRow ts.length).toArray 51)=w1:=⟨_,rfl⟩
 have b1:=zG hw1
 have q1:=zQ hw1
 have l1:=zL q1
 have I0:Hid (OwnI w w1 ts 0 w1):=zH ⟨⟨zeroRow ts.length,by rw [List.take_zero,List.nil_append,Nat.sub_zero];exact zeroRow_row _ _ _,by rw [←hw1];exact cellsAt_made _ _ _⟩,⟨_,q1⟩,Oth.refl _ _⟩
 have B1:=zH b1
 clear b1 q1 h0
 go_enter Tryz.func110,Tryz.ntmps110
 go_wp2_with fail
 clear hmk
 go_loopw [14] (fun i wr=>∃k:Nat,k≤ts.length∧i=.int .i64 (k:Int)∧Hid (OwnI w w1 ts k wr)) (fun i _=>ts.length-(intOf i).toNat)
 case atStart=>exact ⟨0,by omega,rfl,I0⟩
 clear I0 hw1
 obtain ⟨k,hk,rfl,HI⟩:=hrel
 obtain ⟨⟨xs,hrow,hcells⟩,⟨cur,hcur⟩,ho⟩:=HI.out
 have hbw:Below w.heap.size w wr:=Oth.below B1.out ho (zN _) (by omega)
 have hsw:=ho.size
 by_cases hlt:k<ts.length
 ·obtain ⟨b,o,k1,n1,p1,us,B,c1,rfl,hb,ht,d0,d1,d2,d3,hcu,hB,hT⟩:=HA.out.at_ hlt
  have f0:=(hbw.cell (p:=⟨b,o+k*4,none⟩) hb).trans d0
  have f1:=(hbw.cell (p:=⟨b,o+k*4+1,none⟩) hb).trans d1
  have f2:=(hbw.cell (p:=⟨b,o+k*4+2,none⟩) hb).trans d2
  have f3:=(hbw.cell (p:=⟨b,o+k*4+3,none⟩) hb).trans d3
  have hi0:(0:Int)≤(k:Int):=Int.natCast_nonneg _
  have hi1:(k:Int)<(ts.length:Int):=by omega
  have hmem:=Lfc.Raw.sizes_mem ts ts[k] (List.getElem_mem _)
  obtain ⟨wx,hwx⟩:∃wx,wr.alloc (.cells #[.int .i64 k1,S n1,.int .i64 p1,.slice B us.length c1] 51)=wx:=⟨_,rfl⟩
  have bx:=zG hwx
  have qx:=zQ hwx
  have lx:=zL qx
  obtain ⟨y0,y1,y2,y3⟩:=cells4t qx
  have CALL:=zH (IH.out ts[k] _ wx (by omega) (hT.below (hbw.trans (bx.mono hbw.size))))
  have HROW:=zH hrow
  have HCE:=zH hcells
  have HCU:=zH hcur
  have HO:=zH ho
  have BX:=zH bx
  have HTK:=zH ht
  have HWX:=zH hwx
  have hxl:xs.length=4*ts.length:=by rw [hrow.len,List.length_append,List.length_take,List.length_replicate];omega
  have HXL:=zH hxl
  clear hrow hcells hcur ho bx qx hT hB ht d0 d1 d2 d3 hwx hbw HI hxl
  go_upto_region 7 with fail
  rw [HWX.out]
  go_wp2_with fail
  refine CALL.out.mono ?_
  rintro e w5 ⟨⟨v5,rfl,hv5⟩,b5⟩
  rw [HTK.out] at hv5
  obtain ⟨A5,c5,rfl,hp5⟩:=hv5.openT
  have lcur:=zL HCU.out
  have b5r:Below wr.heap.size wr w5:=BX.out.trans (b5.mono BX.out.size)
  have hcur5:=(b5r.block _ lcur).trans HCU.out
  have hcells5:CellsAt w5 w.heap.size 0 xs:=fun j u hj=>(b5r.cell (p:=⟨w.heap.size,0+j,none⟩) lcur).trans (HCE.out j u hj)
  obtain ⟨s1,s2,s3,s4,a0,a1,a2,a3,g1,g2,g3,g4,⟨r0,r1,r2,r3⟩,⟨t0,t1,t2,t3⟩,hc4,ho4,hcur4⟩:=tput4row (i:=k) hcur5 hcells5 (by have:=HXL.out;omega) (.int .i64 k1) (S n1) (.int .i64 p1) (.slice A5 us.length c5)
  have HN:Hid (OwnI w w1 ts (k+1) s4):=zH (by
   refine ⟨⟨_,?_,hc4⟩,hcur4,(HO.out.trans (Oth.of_below b5r)).trans ho4⟩
   rw [←take_set ts zeroT k hlt]
   refine RowP.set ?_ k (by rw [List.length_append,List.length_take,List.length_replicate];omega) (RowP.keep (fun b hb hlt=>?_) (Nat.le_trans b5r.size ho4.size) (fun b _ hb=>hb) HROW.out)
   ·rw [HTK.out]
    refine TreeP.keep (fun b hb hlt=>?_) ho4.size (fun b _ hb=>?_) _ _ _ _ _ hp5
    ·have hb:wx.heap.size≤b:=hb
     exact ho4.block b hlt (fun e=>by have:=zO e;omega)
    have hb:wx.heap.size≤b:=hb
    show w.heap.size<b
    omega
   have hb:w.heap.size<b:=hb
   exact (ho4.block b (Nat.lt_of_lt_of_le hlt b5r.size) (fun e=>by have:=zO e;omega)).trans (b5r.block b hlt))
  clear hc4 ho4 hcur4 hcells5 hcur5 hp5 hv5 b5 b5r CALL
  go_wp2_with fail
  go_roundw
  case rel=>exact ⟨k+1,by omega,by go_num,HN⟩
  case measure=>simp [intOf];omega
 obtain rfl:k=ts.length:=by omega
 have HZ:Hid ((∃A' c',Ending.returned (.slice (some ⟨w.heap.size,0,none⟩) ts.length ts.length)=.returned (.slice A' ts.length c')∧ts.length≤c'∧TreesAtP (fun b=>w.heap.size≤b) wr A' ts)∧Below w.heap.size w wr):=zH (by
  refine ⟨⟨_,_,rfl,zN _,fun _=>⟨w.heap.size,0,rfl,by omega,zN _,?_⟩⟩,hbw⟩
  rw [List.take_length,Nat.sub_self,List.replicate_zero,List.append_nil] at hrow
  exact (RowP.keep (fun _ _ _=>rfl) (zN _) (fun b _ hb=>by have hb:w.heap.size<b:=hb;show w.heap.size≤b;omega) hrow).lie hcells)
 clear hrow hcells hcur ho hbw HI
 go_wp2_with fail
 go_ret
 exact HZ.out
theorem results_term {fn:Func} {p:Tmp} (h:fn.results=#[.cell p 51]) (tmps:Array Value) (w:World) (g:Nat) (v0 v1 v2 v3:Value) (hp:tmps.getD p undef=.pointer (some ⟨g,0,none⟩)) (hg:w.heap[g]?=some (.cells #[v0,v1,v2,v3] 51 (0,0))) :
  (results fn tmps).run Tryz.prog w=.ok (.agg #[v0,v1,v2,v3]) w :=
 results_cell_row h tmps w g _ _ _ _ hp hg Tryz.underlying51 rfl term_size
theorem ownTerm_upto (m:Nat) (hm:m≤1000000):OwnUpto m:=by
 induction m with
 | zero=>intro t v w h;have:=t.size_pos;omega
 | succ m ih =>
  intro t v w hsz hv
  obtain ⟨kd,nm,ps,ts⟩:=t
  have hnm:=hv.name_le
  obtain ⟨A,c,rfl,hc,hA⟩:=hv.open_
  simp only [Lfc.Raw.size] at hsz
  have hlen:=Lfc.Raw.sizes_len ts
  obtain ⟨w1,hw1⟩:∃w1,w.alloc (.cells #[.int .i64 kd,S nm,.int .i64 ps,.slice A ts.length c] 51)=w1:=⟨_,rfl⟩
  obtain ⟨w2,hw2⟩:∃w2,w1.alloc (.cells #[.int .i64 0,S [],.int .i64 0,.slice none 0 0] 51)=w2:=⟨_,rfl⟩
  have b1:=zG hw1
  have b2:=zG hw2
  have q1:=zQ hw1
  have q2:=zQ hw2
  have l1:=zL q1
  have l2:=zL q2
  have b02:Below w.heap.size w w2:=b1.trans (b2.mono (by omega))
  have Q1:=zH ((b2.block _ l1).trans q1)
  have Q2:=zH q2
  have B02:=zH b02
  have hs2:=b02.size
  obtain ⟨y0,y1,y2,y3⟩:=cells4t Q1.out
  have CALL:=zH (ownTerms_any m (ih (by omega)) ts A c w2 (by omega) (by omega) (hA.below b02))
  clear ih hv hA b1 b2 q1 q2 b02
  go_enter Tryz.func93,Tryz.ntmps93
  go_wp2_with fail
  refine CALL.out.mono ?_
  rintro e w3 ⟨⟨A3,c3,rfl,hc3,hA3⟩,b3⟩
  have q3:=(b3.block _ (by omega)).trans Q1.out
  have q3r:=(b3.block _ l2).trans Q2.out
  have z3:=zC q3 3
  have f3:=zF q3 3
  simp at z3
  obtain ⟨w4,hw4⟩:∃w4,w3.setCell ⟨w.heap.size,3,none⟩ (.slice A3 ts.length c3)=w4:=⟨_,rfl⟩
  have o4:Oth w.heap.size w3 w4:=by rw [←hw4];exact Oth.set _ _
  have q4:w4.heap[w.heap.size]?=some (.cells #[.int .i64 kd,S nm,.int .i64 ps,.slice A3 ts.length c3] 51 (0,0)):=by rw [←hw4];simp [World.setCell,Array.getElem?_modify,q3]
  have q4r:=o4.heap q3r (show w1.heap.size≠w.heap.size by omega)
  obtain ⟨x0,x1,x2,x3⟩:=cells4t q4
  obtain ⟨s1,s2,s3,s4,g1,g2,g3,g4,⟨r0,r1,r2,r3⟩,⟨t0,t1,t2,t3⟩,hq,ho⟩:=tput4 q4r (.int .i64 kd) (S nm) (.int .i64 ps) (.slice A3 ts.length c3)
  have HQ:=zH hq
  have HZ:Hid (TreeVP (fun b=>w.heap.size≤b) s4 (.node kd nm ps ts) (.agg #[.int .i64 kd,S nm,.int .i64 ps,.slice A3 ts.length c3])):=zH (by
   refine TreeVP.mk hnm hc3 (hA3.keep (fun b hb hlt=>?_) (Nat.le_trans o4.size ho.size) (fun b _ hb=>by have hb:w2.heap.size≤b:=hb;show w.heap.size≤b;omega))
   have hb:w2.heap.size≤b:=hb
   exact (ho.block b (Nat.lt_of_lt_of_le hlt o4.size) (fun e=>by have:=zO e;omega)).trans (o4.block b hlt (fun e=>by have:=zO e;omega)))
  have HB:Hid (Below w.heap.size w s4):=zH (Oth.below (Oth.below (B02.out.trans (b3.mono hs2)) o4 (zN _) (Nat.le_trans hs2 b3.size)) ho (by omega) (Nat.le_trans (Nat.le_trans hs2 b3.size) o4.size))
  clear hq ho q4 q4r o4 q3 q3r hA3 b3 CALL
  go_wp2_with fail
  refine bodyPost_ret (results_term rfl _ _ _ _ _ _ _ rfl HQ.out) rfl ?_
  exact ⟨⟨_,rfl,HZ.out⟩,HB.out⟩
end Go.Proofs.YtadjpadieljjlaaGreat
namespace Lfc
structure Link where
 kind:Int
 term:Raw
 path:List Int
 fact:Int
def upOf (u:Raw):Option (List Int)→Int × List Link
 | none=>(0,[])
 | some []=>(1,[])
 | some (i :: q)=>(2,[⟨1,u,i :: q,0⟩])
def Raw.up (ks:List Int) (t u:Raw):Int × List Link:=upOf u (Raw.path ks t u)
theorem upOf_some {u:Raw} {q:List Int} (h:q.length≠0):upOf u (some q)=(2,[⟨1,u,q,0⟩]):=by
 cases q with
 | nil=>exact absurd rfl h
 | cons i r=>rfl
end Lfc
namespace Go.Proofs.YtadjpadieljjlaaGreat
open Go.RowKit
def IntsP (q:Nat→Prop) (w:World) (A:Option Addr) (zs:List Int):Prop:=zs≠[]→∃b o,A=some ⟨b,o,none⟩∧b<w.heap.size∧q b∧∀k,k<zs.length→w.cell? ⟨b,o+k,none⟩=some (.int .i64 (zs.getD k 0))
theorem IntsP.toO {q:Nat→Prop} {w:World} {A:Option Addr} {zs:List Int} (h:IntsP q w A zs):IntsO w A zs:=fun hne=>by
 obtain ⟨b,o,hA,hlt,_,hc⟩:=h hne
 exact ⟨b,o,hA,hlt,hc⟩
theorem cell_kept {w w':World} {b o:Nat} (h:w'.heap[b]?=w.heap[b]?):w'.cell? ⟨b,o,none⟩=w.cell? ⟨b,o,none⟩:=by
 unfold World.cell?;rw [h]
theorem IntsP.keep {q q':Nat→Prop} {w w':World} {A:Option Addr} {zs:List Int} (hk:∀b,q b→b<w.heap.size→w'.heap[b]?=w.heap[b]?) (hs:w.heap.size≤w'.heap.size) (hq:∀b,b<w.heap.size→q b→q' b) (h:IntsP q w A zs):IntsP q' w' A zs:=fun hne=>by
 obtain ⟨b,o,hA,hlt,hb,hc⟩:=h hne
 exact ⟨b,o,hA,Nat.lt_of_lt_of_le hlt hs,hq b hlt hb,fun k hk2=>(cell_kept (hk b hb hlt)).trans (hc k hk2)⟩
theorem TreeVP.keep {q q':Nat→Prop} {w w':World} {t:Lfc.Raw} {v:Value} (hk:∀b,q b→b<w.heap.size→w'.heap[b]?=w.heap[b]?) (hs:w.heap.size≤w'.heap.size) (hq:∀b,b<w.heap.size→q b→q' b) (h:TreeVP q w t v):TreeVP q' w' t v:=by
 obtain ⟨v0,v1,v2,v3,e,h⟩:=h
 exact ⟨v0,v1,v2,v3,e,TreeP.keep hk hs hq t _ _ _ _ h⟩
def LinkP (q:Nat→Prop) (w:World) (b o:Nat) (x:Lfc.Link):Prop:=∃k n p ts At ct A c,x.term=.node k n p ts∧w.cell? ⟨b,o,none⟩=some (.int .i64 x.kind)∧w.cell? ⟨b,o+1,none⟩=some (.int .i64 k)∧w.cell? ⟨b,o+2,none⟩=some (S n)∧w.cell? ⟨b,o+3,none⟩=some (.int .i64 p)∧w.cell? ⟨b,o+4,none⟩=some (.slice At (List.length ts) ct)∧w.cell? ⟨b,o+5,none⟩=some (.slice A x.path.length c)∧w.cell? ⟨b,o+6,none⟩=some (.int .i64 x.fact)∧x.path.length≤c∧IntsP q w A x.path∧TreeVP q w x.term (.agg #[.int .i64 k,S n,.int .i64 p,.slice At (List.length ts) ct])
theorem LinkP.keep {q q':Nat→Prop} {w w':World} {b o:Nat} {x:Lfc.Link} (hk:∀b,q b→b<w.heap.size→w'.heap[b]?=w.heap[b]?) (hs:w.heap.size≤w'.heap.size) (hq:∀b,b<w.heap.size→q b→q' b) (hb:q b) (hlt:b<w.heap.size) (h:LinkP q w b o x):LinkP q' w' b o x:=by
 obtain ⟨k,n,p,ts,At,ct,A,c,e,h0,h1,h2,h3,h4,h5,h6,hc,hi,ht⟩:=h
 have hc':=fun o=>cell_kept (o:=o) (hk b hb hlt)
 exact ⟨k,n,p,ts,At,ct,A,c,e,(hc' _).trans h0,(hc' _).trans h1,(hc' _).trans h2,(hc' _).trans h3,(hc' _).trans h4,(hc' _).trans h5,(hc' _).trans h6,hc,hi.keep hk hs hq,ht.keep hk hs hq⟩
def LinksP (q:Nat→Prop) (w:World) (A:Option Addr) (l:List Lfc.Link):Prop:=l≠[]→∃b o,A=some ⟨b,o,none⟩∧b<w.heap.size∧q b∧∀i (h:i<l.length),LinkP q w b (o+i*7) l[i]
theorem LinksP.keep {q q':Nat→Prop} {w w':World} {A:Option Addr} {l:List Lfc.Link} (hk:∀b,q b→b<w.heap.size→w'.heap[b]?=w.heap[b]?) (hs:w.heap.size≤w'.heap.size) (hq:∀b,b<w.heap.size→q b→q' b) (h:LinksP q w A l):LinksP q' w' A l:=fun hne=>by
 obtain ⟨b,o,hA,hlt,hb,h⟩:=h hne
 exact ⟨b,o,hA,Nat.lt_of_lt_of_le hlt hs,hq b hlt hb,fun i hi=>(h i hi).keep hk hs hq hb hlt⟩
theorem LinksP.below {q:Nat→Prop} {w w':World} {A:Option Addr} {l:List Lfc.Link} (h:LinksP q w A l) (hb:Below w.heap.size w w'):LinksP q w' A l:=h.keep (fun b _ hlt=>hb.block b hlt) hb.size (fun _ _ h=>h)
theorem LinksP.nil {q:Nat→Prop} {w:World} {A:Option Addr}:LinksP q w A []:=fun h=>absurd rfl h
def EdgeAns (w:World) (g:Int × List Lfc.Link) (e:Ending) (w':World):Prop:=(∃A c,e=.returned (.agg #[.int .i64 g.1,.slice A g.2.length c])∧g.2.length≤c∧LinksP (fun b=>w.heap.size≤b) w' A g.2)∧Below w.heap.size w w'
theorem put2 {W:World} {R:Nat} {a0 a1:Value} {t:TypeId} (h:W.heap[R]?=some (.cells #[a0,a1] t (0,0))) (v0 v1:Value):∃s1 s2,W.setCell ⟨R,0,none⟩ v0=s1∧s1.setCell ⟨R,1,none⟩ v1=s2 ∧
  (W.cell? ⟨R,0,none⟩=some a0∧s1.cell? ⟨R,1,none⟩=some a1) ∧
  (W.frozen? ⟨R,0,none⟩=false∧s1.frozen? ⟨R,1,none⟩=false) ∧
  s2.heap[R]?=some (.cells #[v0,v1] t (0,0))∧Oth R W s2:=by
 obtain ⟨s1,h1⟩:∃s1,W.setCell ⟨R,0,none⟩ v0=s1:=⟨_,rfl⟩
 obtain ⟨s2,h2⟩:∃s2,s1.setCell ⟨R,1,none⟩ v1=s2:=⟨_,rfl⟩
 have q1:s1.heap[R]?=some (.cells #[v0,a1] t (0,0)):=by rw [←h1];simp [World.setCell,Array.getElem?_modify,h]
 have q2:s2.heap[R]?=some (.cells #[v0,v1] t (0,0)):=by rw [←h2];simp [World.setCell,Array.getElem?_modify,q1]
 refine ⟨s1,s2,h1,h2,⟨zC h 0,zC q1 1⟩,⟨zF h 0,zF q1 1⟩,q2,?_⟩
 rw [←h2,←h1]
 exact (Oth.set W v0).trans (Oth.set _ v1)
theorem cells2e {W:World} {g:Nat} {v0 v1:Value} {t:TypeId} (h:W.heap[g]?=some (.cells #[v0,v1] t (0,0))):W.cell? ⟨g,0,none⟩=some v0∧W.cell? ⟨g,1,none⟩=some v1:=⟨zC h 0,zC h 1⟩
theorem edge_size:(Tryz.prog.info? 183).map (·.size)=some 2:=by kernel_rfl
theorem results_edge {fn:Func} {p:Tmp} (h:fn.results=#[.cell p 183]) (tmps:Array Value) (w:World) (g:Nat) (v0 v1:Value) (hp:tmps.getD p undef=.pointer (some ⟨g,0,none⟩)) (hg:w.heap[g]?=some (.cells #[v0,v1] 183 (0,0))) :
  (results fn tmps).run Tryz.prog w=.ok (.agg #[v0,v1]) w :=
 results_cell_row h tmps w g _ _ _ _ hp hg Tryz.underlying183 rfl edge_size
theorem intsP_own {w:World} {base:Nat} {A:Option Addr} {c:Nat} {zs:List Int} (h:w.ownsRow base 3 1 (.slice A zs.length c) zs.length (ints zs)):IntsP (fun b=>base≤b) w A zs:=fun hne=>by
 have hl:zs.length≠0:=fun e=>hne (List.length_eq_zero_iff.1 e)
 rcases h.2 with ⟨h0,_⟩ | ⟨g,cap,cur,hv,_,hcur,_⟩
 ·injection h0 with _ e _;exact absurd e hl
 injection hv with hA _ _
 subst hA
 have hlt:=h.lt g rfl
 refine ⟨g,0,rfl,hlt.2,hlt.1,fun k hk=>?_⟩
 have hce:=own_cells h k (.int .i64 (zs.getD k 0)) (by simp [ints,List.getD_eq_getElem?_getD,List.getElem?_eq_getElem hk])
 exact hce
theorem PathAns.no {w:World} {e:Ending} {w':World} (h:PathAns w none e w'):e=.returned (.tuple #[.slice none 0 0,.bool false])∧Below w.heap.size w w':=by
 obtain ⟨⟨_,he⟩ | ⟨q,A,c,h1,_⟩,hb⟩:=h
 ·exact ⟨he,hb⟩
 cases h1
theorem PathAns.yes {w:World} {q:List Int} {e:Ending} {w':World} (h:PathAns w (some q) e w'):(∃A c,e=.returned (.tuple #[.slice A q.length c,.bool true])∧q.length≤c∧IntsP (fun b=>w.heap.size≤b) w' A q)∧Below w.heap.size w w':=by
 obtain ⟨⟨h1,_⟩ | ⟨q',A,c,h1,he,hc,ho⟩,hb⟩:=h
 ·cases h1
 cases h1
 exact ⟨⟨A,c,he,hc,intsP_own ho⟩,hb⟩
theorem link_one {q:Nat→Prop} {w:World} {b:Nat} {k p:Int} {n:List UInt8} {ts:List Lfc.Raw} {At A:Option Addr} {ct c:Nat} {x:Lfc.Link} (h:w.heap[b]?=some (.cells #[.int .i64 x.kind,.int .i64 k,S n,.int .i64 p,.slice At (List.length ts) ct,.slice A x.path.length c,.int .i64 x.fact] 93 (0,0))) (hb:q b) (he:x.term=.node k n p ts) (hc:x.path.length≤c) (hi:IntsP q w A x.path) (ht:TreeVP q w x.term (.agg #[.int .i64 k,S n,.int .i64 p,.slice At (List.length ts) ct])):LinksP q w (some ⟨b,0,none⟩) [x]:=fun _=>by
 refine ⟨b,0,rfl,zL h,hb,fun i hi1=>?_⟩
 have hi1':i<1:=hi1
 obtain rfl:i=0:=by omega
 exact ⟨k,n,p,ts,At,ct,A,c,he,zC h 0,zC h 1,zC h 2,zC h 3,zC h 4,zC h 5,zC h 6,hc,hi,ht⟩
theorem edge_ans {w w3 w5 s:World} {R:Nat} {g:Int × List Lfc.Link} {A:Option Addr} {c:Nat} (hg:g.2.length≤c) (hl:LinksP (fun b=>w.heap.size≤b) s A g.2) (b3:Below w.heap.size w w3) (b5:Below w3.heap.size w3 w5) (ho:Oth R w5 s) (hR:w.heap.size≤R) (hs:w.heap.size≤w3.heap.size):EdgeAns w g (.returned (.agg #[.int .i64 g.1,.slice A g.2.length c])) s :=
 ⟨⟨A,c,rfl,hg,hl⟩,Oth.below (b3.trans (b5.mono hs)) ho hR (Nat.le_trans hs b5.size)⟩
end Go.Proofs.YtadjpadieljjlaaGreat
namespace Go.Proofs.YtadjpadieljjlaaGreat
open Go.RowKit
theorem oUp_any (Bx:Nat) (ks:List Int) (A0:Option Addr) (c0:Nat) (t u:Lfc.Raw) (vt vu:Value) (w:World) (hks:ks.length≤1000000) (ht:t.size≤1000000) (hu:u.size≤1000000) (hA0:IntsO w A0 ks) (hv:TreeV w t vt) (hv':TreeV w u vu) (hx:w.cell? ⟨Bx,1,none⟩=some (.slice A0 ks.length c0)) (hB:Bx<w.heap.size) :
  Calls Tryz.prog 163 #[.pointer (some ⟨Bx,0,none⟩),vt,vu] w (EdgeAns w (Lfc.Raw.up ks t u)):=by
 have HV:=zH hv
 have HV':=zH hv'
 obtain ⟨A,c,kd,nm,ps,xs,hT,rfl⟩:∃A c kd nm ps xs,t=.node kd nm ps xs∧vt=.agg #[.int .i64 kd,S nm,.int .i64 ps,.slice A (List.length xs) c]:=by
  obtain ⟨kd,nm,ps,ts⟩:=t
  obtain ⟨A,c,rfl,hc,hA⟩:=hv.open_
  exact ⟨A,c,kd,nm,ps,ts,rfl,rfl⟩
 obtain ⟨A',c',kd',nm',ps',ys,hU,rfl⟩:∃A c kd nm ps xs,u=.node kd nm ps xs∧vu=.agg #[.int .i64 kd,S nm,.int .i64 ps,.slice A (List.length xs) c]:=by
  obtain ⟨kd,nm,ps,ts⟩:=u
  obtain ⟨A,c,rfl,hc,hA⟩:=hv'.open_
  exact ⟨A,c,kd,nm,ps,ts,rfl,rfl⟩
 obtain ⟨w1,hw1⟩:∃w1,w.alloc (.cells #[.int .i64 kd,S nm,.int .i64 ps,.slice A xs.length c] 51)=w1:=⟨_,rfl⟩
 obtain ⟨w2,hw2⟩:∃w2,w1.alloc (.cells #[.int .i64 kd',S nm',.int .i64 ps',.slice A' ys.length c'] 51)=w2:=⟨_,rfl⟩
 obtain ⟨w3,hw3⟩:∃w3,w2.alloc (.cells #[.int .i64 0,.slice none 0 0] 183)=w3:=⟨_,rfl⟩
 have b1:=zG hw1
 have b2:=zG hw2
 have b3:=zG hw3
 have q1:=zQ hw1
 have q2:=zQ hw2
 have q3:=zQ hw3
 have l1:=zL q1
 have l2:=zL q2
 have l3:=zL q3
 have b13:Below w1.heap.size w1 w3:=b2.trans (b3.mono (by omega))
 have b03:Below w.heap.size w w3:=b1.trans (b13.mono (by omega))
 have Q1:=zH ((b13.block _ l1).trans q1)
 have Q2:=zH ((b3.block _ l2).trans q2)
 have Q3:=zH q3
 have B03:=zH b03
 have s03:w.heap.size≤w3.heap.size:=by omega
 have HX:=zH ((b03.cell (p:=⟨Bx,1,none⟩) hB).trans hx)
 have SC:Hid (∀W,Below w3.heap.size w3 W→W.cell? ⟨Bx,1,none⟩=some (.slice A0 ks.length c0)∧(W.cell? ⟨w.heap.size,0,none⟩=some (.int .i64 kd)∧W.cell? ⟨w.heap.size,1,none⟩=some (S nm)∧W.cell? ⟨w.heap.size,2,none⟩=some (.int .i64 ps)∧W.cell? ⟨w.heap.size,3,none⟩=some (.slice A xs.length c))∧(W.cell? ⟨w1.heap.size,0,none⟩=some (.int .i64 kd')∧W.cell? ⟨w1.heap.size,1,none⟩=some (S nm')∧W.cell? ⟨w1.heap.size,2,none⟩=some (.int .i64 ps')∧W.cell? ⟨w1.heap.size,3,none⟩=some (.slice A' ys.length c'))):=zH (fun W hb=>by
  refine ⟨(hb.cell (p:=⟨Bx,1,none⟩) (by simp only;omega)).trans HX.out,?_,?_⟩
  ·exact cells4t ((hb.block _ (by omega)).trans Q1.out)
  exact cells4t ((hb.block _ (by omega)).trans Q2.out))
 have CP:=zH (fun W (hb:Below w3.heap.size w3 W)=>oPath_any t u _ _ ks A0 c0 W hks ht hu (hA0.below (b03.trans (hb.mono s03))) (HV.out.below (b03.trans (hb.mono s03))) (HV'.out.below (b03.trans (hb.mono s03))))
 have CO:=zH (fun W (hb:Below w3.heap.size w3 W)=>ownTerm_upto _ hu u _ W (zN _) (HV'.out.below (b03.trans (hb.mono s03))))
 have HU:=zH hU
 have HR:Hid (Lfc.Raw.up ks t u=Lfc.upOf u (Lfc.Raw.path ks t u)):=zH rfl
 have aa:∀W W',Below w3.heap.size w3 W→Below W.heap.size W W'→Below w3.heap.size w3 W':=fun W W' h h'=>h.trans (h'.mono h.size)
 have G0:Below w3.heap.size w3 w3.drew:=(zB _ _).drew
 rw [HR.out]
 generalize Lfc.Raw.path ks t u=r at *
 clear hT hU hv hv' hA0 b1 b2 b3 q1 q2 q3 b13 b03 hx HX HR
 cases r with
 | none =>
  have CP:=zH (fun W hb=>(CP.out W hb).mono (fun e w' h=>h.no))
  go_enter Tryz.func163,Tryz.ntmps163
  go_upto_region 1 with fail
  clear hw1 hw2 hw3
  go_region_held3 (fun W=>W.cell? ⟨Bx,1,none⟩=some (.slice A0 ks.length c0)∧(W.cell? ⟨w.heap.size,0,none⟩=some (.int .i64 kd)∧W.cell? ⟨w.heap.size,1,none⟩=some (S nm)∧W.cell? ⟨w.heap.size,2,none⟩=some (.int .i64 ps)∧W.cell? ⟨w.heap.size,3,none⟩=some (.slice A xs.length c))∧(W.cell? ⟨w1.heap.size,0,none⟩=some (.int .i64 kd')∧W.cell? ⟨w1.heap.size,1,none⟩=some (S nm')∧W.cell? ⟨w1.heap.size,2,none⟩=some (.int .i64 ps')∧W.cell? ⟨w1.heap.size,3,none⟩=some (.slice A' ys.length c')))
   (first | exact SC.out _ G0 | (refine SC.out _ ?_;assumption))
   ((go_at_call 20;((with_reducible refine (CP.out _ ?_).mono ?_));assumption;rintro e w5 ⟨rfl,b5'⟩;have b5:=aa _ _ (by assumption) b5'))
  obtain ⟨s1,s2,g1,g2,⟨p0,p1⟩,⟨f0,f1⟩,hq2,hot⟩:=put2 ((b5.block _ l3).trans Q3.out) (.int .i64 0) (.slice none 0 0)
  have HQ:=zH hq2
  have HZ:=zH (edge_ans (g:=Lfc.upOf u none) (A:=none) (c:=0) (zN _) LinksP.nil B03.out b5 hot (by omega) s03)
  clear hq2 hot b5 b5' CO 
  go_wp2_with fail
  refine bodyPost_ret (results_edge rfl _ _ _ _ _ rfl HQ.out) rfl ?_
  exact HZ.out
 | some q =>
  have CP:=zH (fun W hb=>(CP.out W hb).mono (fun e w' h=>h.yes))
  by_cases h0:q.length=0
  ·obtain rfl:q=[]:=List.length_eq_zero_iff.1 h0
   clear h0
   go_enter Tryz.func163,Tryz.ntmps163
   go_upto_region 1 with fail
   clear hw1 hw2 hw3
   go_region_held3 (fun W=>W.cell? ⟨Bx,1,none⟩=some (.slice A0 ks.length c0)∧(W.cell? ⟨w.heap.size,0,none⟩=some (.int .i64 kd)∧W.cell? ⟨w.heap.size,1,none⟩=some (S nm)∧W.cell? ⟨w.heap.size,2,none⟩=some (.int .i64 ps)∧W.cell? ⟨w.heap.size,3,none⟩=some (.slice A xs.length c))∧(W.cell? ⟨w1.heap.size,0,none⟩=some (.int .i64 kd')∧W.cell? ⟨w1.heap.size,1,none⟩=some (S nm')∧W.cell? ⟨w1.heap.size,2,none⟩=some (.int .i64 ps')∧W.cell? ⟨w1.heap.size,3,none⟩=some (.slice A' ys.length c')))
    (first | exact SC.out _ G0 | (refine SC.out _ ?_;assumption))
    ((go_at_call 20;((with_reducible refine (CP.out _ ?_).mono ?_));assumption;rintro e w5 ⟨⟨Aq,cq,rfl,hcq,hq⟩,b5'⟩;have b5:=aa _ _ (by assumption) b5'))
   obtain ⟨s1,s2,g1,g2,⟨p0,p1⟩,⟨f0,f1⟩,hq2,hot⟩:=put2 ((b5.block _ l3).trans Q3.out) (.int .i64 1) (.slice none 0 0)
   have HQ:=zH hq2
   have HZ:=zH (edge_ans (g:=Lfc.upOf u (some [])) (A:=none) (c:=0) (zN _) LinksP.nil B03.out b5 hot (by omega) s03)
   clear hq2 hot b5 b5' CO hq
   go_wp2_with fail
   refine bodyPost_ret (results_edge rfl _ _ _ _ _ rfl HQ.out) rfl ?_
   exact HZ.out
  have hz:((q.length:Int) == 0)=false:=by simpa using h0
  have hz2:(q.length == 0)=false:=by simpa using h0
  have HG:Hid (Lfc.upOf u (some q)=(2,[⟨1,u,q,0⟩])):=zH (Lfc.upOf_some h0)
  clear h0
  rw [HG.out]
  go_enter Tryz.func163,Tryz.ntmps163
  go_upto_region 1 with fail
  clear hw1 hw2 hw3
  go_region_held3 (fun W=>W.cell? ⟨Bx,1,none⟩=some (.slice A0 ks.length c0)∧(W.cell? ⟨w.heap.size,0,none⟩=some (.int .i64 kd)∧W.cell? ⟨w.heap.size,1,none⟩=some (S nm)∧W.cell? ⟨w.heap.size,2,none⟩=some (.int .i64 ps)∧W.cell? ⟨w.heap.size,3,none⟩=some (.slice A xs.length c))∧(W.cell? ⟨w1.heap.size,0,none⟩=some (.int .i64 kd')∧W.cell? ⟨w1.heap.size,1,none⟩=some (S nm')∧W.cell? ⟨w1.heap.size,2,none⟩=some (.int .i64 ps')∧W.cell? ⟨w1.heap.size,3,none⟩=some (.slice A' ys.length c')))
   (first | exact SC.out _ G0 | (refine SC.out _ ?_;assumption))
   ((go_at_call 20;((with_reducible refine (CP.out _ ?_).mono ?_));assumption;rintro e w5 ⟨⟨Aq,cq,rfl,hcq,hq⟩,b5'⟩;have b5:=aa _ _ (by assumption) b5'))
  have HI:=zH hq
  obtain ⟨z0,z1,z2,z3⟩:=cells4t ((b5.block _ (by omega)).trans Q2.out)
  have CO:=zH (CO.out _ b5)
  go_wp2_with fail
  refine CO.out.mono ?_
  rintro e w6 ⟨⟨v6,rfl,hv6⟩,b6⟩
  rw [HU.out] at hv6
  obtain ⟨A6,c6,rfl,hp6⟩:=hv6.openT
  have hv7:=hv6
  rw [←HU.out] at hv7
  obtain ⟨w7,hw7⟩:∃w7,w6.alloc (.cells #[.int .i64 1,.int .i64 kd',S nm',.int .i64 ps',.slice A6 ys.length c6,.slice Aq q.length cq,.int .i64 0] 93)=w7:=⟨_,rfl⟩
  have b7:=zG hw7
  have q7:=zQ hw7
  have b67:Below w5.heap.size w5 w7:=b6.trans (b7.mono b6.size)
  have b37:Below w3.heap.size w3 w7:=b5.trans (b67.mono b5.size)
  have hl7:=link_one (q:=fun b=>w3.heap.size≤b) (x:=⟨1,u,q,0⟩) q7 (Nat.le_trans b5.size b6.size) HU.out hcq (HI.out.keep (fun b _ h=>b67.block b h) b67.size (fun b _ h=>h)) (hv7.keep (fun b _ h=>b7.block b h) b7.size (fun b _ h=>Nat.le_trans b5.size h))
  obtain ⟨s1,s2,g1,g2,⟨p0,p1⟩,⟨f0,f1⟩,hq2,hot⟩:=put2 ((b37.block _ l3).trans Q3.out) (.int .i64 2) (.slice (some ⟨w6.heap.size,0,none⟩) 1 1)
  have HQ:=zH hq2
  have HZ:=zH (edge_ans (g:=(2,[⟨1,u,q,0⟩])) (A:=some ⟨w6.heap.size,0,none⟩) (c:=1) (zN _) (hl7.keep (fun b hb hlt=>hot.block b hlt (fun e=>by have e:=zO e;have hb:w3.heap.size≤b:=hb;omega)) hot.size (fun b _ hb=>Nat.le_trans s03 hb)) B03.out b37 hot (by omega) s03)
  clear hq2 hot b5 b5' b6 b7 b67 b37 hl7 hv7 hv6 hp6 hq z0 z1 z2 z3 CO q7
  go_wp2_with fail
  refine bodyPost_ret (results_edge rfl _ _ _ _ _ rfl HQ.out) rfl ?_
  exact HZ.out
end Go.Proofs.YtadjpadieljjlaaGreat
namespace Go.Proofs.YtadjpadieljjlaaGreat
open Go.RowKit
def ChainAns (w:World) (r:Option (List Lfc.Link)) (e:Ending) (w':World):Prop :=
 ((r=none∧e=.returned (.tuple #[.slice none 0 0,.bool false]))∨(∃l A c,r=some l∧e=.returned (.tuple #[.slice A l.length c,.bool true])∧l.length≤c∧LinksP (fun b=>w.heap.size≤b) w' A l))∧Below w.heap.size w w'
def Lfc.chain0 (ks:List Int) (t u:Lfc.Raw) (must:Int):Option (List Lfc.Link):=if must≤(Lfc.Raw.up ks t u).1 then some (Lfc.Raw.up ks t u).2 else none
theorem reachedInfo:(Tryz.prog.info? 194).map (fun i=>(i.zero,i.size,i.bytes))=some (some (.agg #[.bool false,.slice none 0 0]),2,32):=by kernel_rfl
theorem makeReached0 (W:World):(Instr.makeSlice 190 (.int .i64 0) (.int .i64 0)).run Tryz.prog W=.ok (.slice (some ⟨W.heap.size,0,none⟩) 0 0) (W.alloc (.cells #[] 194)):=by
 obtain ⟨i0,hi,hz0,hz1,hz2⟩:=info_parts reachedInfo
 have hr:=run_make (P:=Tryz.prog) W 190 194 i0 (.agg #[.bool false,.slice none 0 0]) Tryz.underlying190 hi hz0 .i64 .i64 0 0 (by omega) (by omega) (by rw [hz2];omega) (by omega)
 have hm:madeCells (Value.agg #[.bool false,.slice none 0 0]).cells (0*i0.size)=#[]:=by simp [madeCells]
 simp only [Int.toNat_zero] at hr
 rw [hm] at hr
 exact hr
theorem oChain0_any (Bx:Nat) (ks:List Int) (A0 F0:Option Addr) (c0 f0:Nat) (must:Int) (t u:Lfc.Raw) (vt vu:Value) (w:World) (hks:ks.length≤1000000) (ht:t.size≤1000000) (hu:u.size≤1000000) (hA0:IntsO w A0 ks) (hv:TreeV w t vt) (hv':TreeV w u vu) (hx0:w.cell? ⟨Bx,0,none⟩=some (.slice F0 0 f0)) (hx:w.cell? ⟨Bx,1,none⟩=some (.slice A0 ks.length c0)) (hB:Bx<w.heap.size) :
  Calls Tryz.prog 161 #[.pointer (some ⟨Bx,0,none⟩),vt,vu,.int .i64 must] w (ChainAns w (Lfc.chain0 ks t u must)):=by
 have HV:=zH hv
 have HV':=zH hv'
 obtain ⟨A,c,kd,nm,ps,xs,hT,rfl⟩:∃A c kd nm ps xs,t=.node kd nm ps xs∧vt=.agg #[.int .i64 kd,S nm,.int .i64 ps,.slice A (List.length xs) c]:=by
  obtain ⟨kd,nm,ps,ts⟩:=t
  obtain ⟨A,c,rfl,hc,hA⟩:=hv.open_
  exact ⟨A,c,kd,nm,ps,ts,rfl,rfl⟩
 obtain ⟨A',c',kd',nm',ps',ys,hU,rfl⟩:∃A c kd nm ps xs,u=.node kd nm ps xs∧vu=.agg #[.int .i64 kd,S nm,.int .i64 ps,.slice A (List.length xs) c]:=by
  obtain ⟨kd,nm,ps,ts⟩:=u
  obtain ⟨A,c,rfl,hc,hA⟩:=hv'.open_
  exact ⟨A,c,kd,nm,ps,ts,rfl,rfl⟩
 obtain ⟨w1,hw1⟩:∃w1,w.alloc (.cells #[.int .i64 kd,S nm,.int .i64 ps,.slice A xs.length c] 51)=w1:=⟨_,rfl⟩
 obtain ⟨w2,hw2⟩:∃w2,w1.alloc (.cells #[.int .i64 kd',S nm',.int .i64 ps',.slice A' ys.length c'] 51)=w2:=⟨_,rfl⟩
 have b1:=zG hw1
 have b2:=zG hw2
 have q1:=zQ hw1
 have q2:=zQ hw2
 have l1:=zL q1
 have l2:=zL q2
 have b02:Below w.heap.size w w2:=b1.trans (b2.mono (by omega))
 have B02:=zH b02
 have s02:w.heap.size≤w2.heap.size:=by omega
 obtain ⟨y0,y1,y2,y3⟩:=cells4t ((b2.block _ l1).trans q1)
 obtain ⟨z0,z1,z2,z3⟩:=cells4t q2
 have x0:=(b02.cell (p:=⟨Bx,0,none⟩) hB).trans hx0
 have CU:=zH (oUp_any Bx ks A0 c0 t u _ _ w2 hks ht hu (hA0.below b02) (HV.out.below b02) (HV'.out.below b02) ((b02.cell (p:=⟨Bx,1,none⟩) hB).trans hx) (by omega))
 have hmk:=makeReached0
 have HR:Hid (Lfc.chain0 ks t u must=if must≤(Lfc.Raw.up ks t u).1 then some (Lfc.Raw.up ks t u).2 else none):=zH rfl
 rw [HR.out]
 obtain ⟨g,hg⟩:∃g,Lfc.Raw.up ks t u=g:=⟨_,rfl⟩
 rw [hg] at CU ⊢
 obtain ⟨gs,gl⟩:=g
 simp only
 obtain ⟨r,hr⟩:∃r,(if must≤gs then some gl else none)=r:=⟨_,rfl⟩
 rw [hr]
 have HRY:Hid (must≤gs→r=some gl):=zH (fun h=>by rw [←hr,if_pos h])
 have HRN:Hid (¬must≤gs→r=none):=zH (fun h=>by rw [←hr,if_neg h])
 have hwr:IntKind.i64.wrap (2*0)=0:=by decide
 clear hT hU hv hv' hA0 b1 b2 q1 q2 b02 hx hx0 HR hg hr
 go_enter Tryz.func161,Tryz.ntmps161
 go_wp2_with fail
 refine CU.out.mono ?_
 rintro e w3 ⟨⟨A3,c3,rfl,hc3,hl3⟩,b3⟩
 clear y0 y1 y2 y3 z0 z1 z2 z3 x0 CU hw1 hw2
 obtain ⟨w4,hw4⟩:∃w4,w3.alloc (.cells #[.int .i64 gs,.slice A3 gl.length c3] 183)=w4:=⟨_,rfl⟩
 have b4:=zG hw4
 have q4:=zQ hw4
 have HW4:=zH hw4
 have b24:Below w2.heap.size w2 w4:=b3.trans (b4.mono b3.size)
 have BW4:=zH (B02.out.trans (b24.mono s02))
 obtain ⟨y0,y1⟩:=cells2e q4
 have l4:=zL q4
 have HL4:=zH (hl3.below b4)
 have s34:=b24.size
 clear hw4 b3 b4 q4 b24 hl3
 go_upto_region 3 with fail
 rw [HW4.out]
 by_cases hm:must≤gs
 ·have hd1:decide (gs≥must)=true:=by rw [decide_eq_true_eq];exact hm
  have hd2:decide (must≤gs)=true:=by rw [decide_eq_true_eq];exact hm
  have HZ:Hid (ChainAns w r (.returned (.tuple #[.slice A3 gl.length c3,.bool true])) w4):=zH ⟨.inr ⟨gl,A3,c3,HRY.out hm,rfl,hc3,HL4.out.keep (fun _ _ _=>rfl) (zN _) (fun b _ h=>Nat.le_trans s02 h)⟩,BW4.out⟩
  clear hm HL4
  go_wp2_with fail
  refine bodyPost_ret (results_tmp2 rfl _ _ _) rfl ?_
  exact HZ.out
 have hd1:decide (gs≥must)=false:=by rw [decide_eq_false_iff_not];exact hm
 have hd2:decide (must≤gs)=false:=by rw [decide_eq_false_iff_not];exact hm
 have HZ:Hid (r=none):=zH (HRN.out (by omega))
 clear hm HL4
 obtain ⟨w5,hw5⟩:∃w5,w4.alloc (.cells #[.slice none 0 0,.slice none 0 0,.slice none 0 0] 191)=w5:=⟨_,rfl⟩
 have b5:=zG hw5
 have q5:=zQ hw5
 have I0:Hid (Below w4.heap.size w4 w5∧∃cur,cur.size=3∧w5.heap[w4.heap.size]?=some (.cells cur 191 (0,0))):=zH ⟨b5,_,rfl,q5⟩
 have hs5:=b5.size
 clear b5 q5
 go_wp2_with fail
 go_loopw [40] (fun i wr=>∃k:Nat,k≤3∧i=.int .i64 (k:Int)∧Hid (Below w4.heap.size w4 wr∧∃cur,cur.size=3∧wr.heap[w4.heap.size]?=some (.cells cur 191 (0,0)))) (fun i _=>3-(intOf i).toNat)
 case atStart=>exact ⟨0,by omega,rfl,I0⟩
 clear I0 hw5
 obtain ⟨k,hk,rfl,HI⟩:=hrel
 obtain ⟨hbw,cur,hcs,hcur⟩:=HI.out
 by_cases hlt:k<3
 ·have hi0:(0:Int)≤(k:Int):=Int.natCast_nonneg _
  have hi1:(k:Int)<3:=by omega
  have hlr:=zL hcur
  obtain ⟨wa,hwa⟩:∃wa,wr.alloc (.cells #[] 194)=wa:=⟨_,rfl⟩
  have ba:=zG hwa
  have hca:=(ba.block _ hlr).trans hcur
  have z0:wa.cell? ⟨w4.heap.size,k,none⟩=some cur[k]:=(zC hca k).trans (Array.getElem?_eq_getElem (by omega))
  have z1:=zF hca k
  have HN:Hid (Below w4.heap.size w4 (wa.setCell ⟨w4.heap.size,k,none⟩ (.slice (some ⟨wr.heap.size,0,none⟩) 0 0))∧∃cur,cur.size=3∧(wa.setCell ⟨w4.heap.size,k,none⟩ (.slice (some ⟨wr.heap.size,0,none⟩) 0 0)).heap[w4.heap.size]?=some (.cells cur 191 (0,0))):=zH (by
   refine ⟨Oth.below (hbw.trans (ba.mono hbw.size)) (Oth.set wa _) (zN _) (Nat.le_trans hbw.size ba.size),cur.set! k (.slice (some ⟨wr.heap.size,0,none⟩) 0 0),by simp [hcs],?_⟩
   simp [World.setCell,Array.getElem?_modify,hca])
  clear hbw hcur hca HI ba
  go_wp2_with fail
  go_roundw
  case rel=>exact ⟨k+1,by omega,by go_num,HN⟩
  case measure=>simp [intOf];omega
 obtain rfl:k=3:=by omega
 clear HI hcur
 obtain ⟨wq,hwq⟩:∃wq,wq=wr:=⟨_,rfl⟩
 subst hwq
 obtain ⟨w6,hw6⟩:∃w6,wq.alloc (.cells #[.slice none 0 0] 192)=w6:=⟨_,rfl⟩
 have b6:=zG hw6
 have q6:=zQ hw6
 have z6:=zC q6 0
 simp at z6
 have HZ6:Hid (ChainAns w r (.returned (.tuple #[.slice none 0 0,.bool false])) w6):=zH ⟨.inl ⟨HZ.out,rfl⟩,BW4.out.trans ((hbw.trans (b6.mono hbw.size)).mono BW4.out.size)⟩
 clear hbw b6 q6
 go_wp2_with fail
 go_loopw [50] (fun i wx=>i=.int .i64 0∧wx=w6) (fun i _=>0)
 case atStart=>exact ⟨rfl,rfl⟩
 obtain ⟨rfl,hwx⟩:=hrel
 subst hwx
 obtain ⟨wy,hwy⟩:∃wy,wy=wr:=⟨_,rfl⟩
 subst hwy
 go_wp2_with fail
 go_loopw [67] (fun _ wx=>wx=wy) (fun i _=>0)
 case atStart=>rfl
 subst hrel
 go_wp2_with fail
 refine bodyPost_ret (results_tmp2 rfl _ _ _) rfl ?_
 exact HZ6.out
end Go.Proofs.YtadjpadieljjlaaGreat
namespace Go.Proofs.YtadjpadieljjlaaGreat
open Go.RowKit
theorem two_alloc (w:World) (X Y:Obj):((w.alloc X).alloc Y).drew.heap[w.heap.size+1]?=some Y:=by
 have h:=zW (w.alloc X) Y
 have e:(w.alloc X).heap.size=w.heap.size+1:=by simp
 rw [e] at h
 exact h
theorem proof_size:(Tryz.prog.info? 39).map (·.size)=some 4:=by kernel_rfl
theorem results_proof2 {fn:Func} {p u:Tmp} (h:fn.results=#[.cell p 39,.tmp u]) (tmps:Array Value) (w:World) (g:Nat) (v0 v1 v2 v3:Value) (hp:tmps.getD p undef=.pointer (some ⟨g,0,none⟩)) (hg:w.heap[g]?=some (.cells #[v0,v1,v2,v3] 39 (0,0))) :
  (results fn tmps).run Tryz.prog w=.ok (.tuple #[.agg #[v0,v1,v2,v3],tmps.getD u undef]) w:=by
 rw [results_cell_tmp h,hp]
 simp [asAddr,run_loadVar_row w g _ _ _ _ _ hg Tryz.underlying39 rfl proof_size,Result.andThen]
theorem results_proof {fn:Func} {p:Tmp} (h:fn.results=#[.cell p 39]) (tmps:Array Value) (w:World) (g:Nat) (v0 v1 v2 v3:Value) (hp:tmps.getD p undef=.pointer (some ⟨g,0,none⟩)) (hg:w.heap[g]?=some (.cells #[v0,v1,v2,v3] 39 (0,0))) :
  (results fn tmps).run Tryz.prog w=.ok (.agg #[v0,v1,v2,v3]) w :=
 results_cell_row h tmps w g _ _ _ _ hp hg Tryz.underlying39 rfl proof_size
def ArgAns (w:World) (r:Option (List Lfc.Link)) (e:Ending) (w':World):Prop :=
 ((r=none∧e=.returned (.tuple #[.agg #[.int .i64 0,.slice none 0 0,.slice none 0 0,.slice none 0 0],.bool false]))∨(∃l A c,r=some l∧e=.returned (.tuple #[.agg #[.int .i64 0,.slice none 0 0,.slice A l.length c,.slice none 0 0],.bool true])∧l.length≤c∧LinksP (fun b=>w.heap.size≤b) w' A l))∧Below w.heap.size w w'
structure ProvO (w:World) (Bx:Nat) (F0 A0 L R:Option Addr) (nf f0:Nat) (ks:List Int) (c0:Nat) (ts us:List Lfc.Raw) (cl cr:Nat):Prop where
 lt:Bx<w.heap.size
 facts:w.cell? ⟨Bx,0,none⟩=some (.slice F0 nf f0)
 kinds:w.cell? ⟨Bx,1,none⟩=some (.slice A0 ks.length c0)
 left:w.cell? ⟨Bx,2,none⟩=some (.slice L ts.length cl)
 right:w.cell? ⟨Bx,3,none⟩=some (.slice R us.length cr)
 ks:IntsO w A0 ks
 ts:TreesAt w L ts
 us:TreesAt w R us
theorem ProvO.below {w w':World} {Bx:Nat} {F0 A0 L R:Option Addr} {nf f0:Nat} {ks:List Int} {c0:Nat} {ts us:List Lfc.Raw} {cl cr:Nat} (h:ProvO w Bx F0 A0 L R nf f0 ks c0 ts us cl cr) (hb:Below w.heap.size w w'):ProvO w' Bx F0 A0 L R nf f0 ks c0 ts us cl cr :=
 ⟨Nat.lt_of_lt_of_le h.lt hb.size,(hb.cell (p:=⟨Bx,0,none⟩) h.lt).trans h.facts,(hb.cell (p:=⟨Bx,1,none⟩) h.lt).trans h.kinds,(hb.cell (p:=⟨Bx,2,none⟩) h.lt).trans h.left,(hb.cell (p:=⟨Bx,3,none⟩) h.lt).trans h.right,h.ks.below hb,h.ts.below hb,h.us.below hb⟩
theorem oArgProve_any (Bx:Nat) (F0 A0 L R:Option Addr) (f0:Nat) (ks:List Int) (c0:Nat) (ts us:List Lfc.Raw) (cl cr i j:Nat) (w:World) (hks:ks.length≤1000000) (hP:ProvO w Bx F0 A0 L R 0 f0 ks c0 ts us cl cr) (hi:i<ts.length) (hj:j<us.length) (hsi:ts[i].size≤1000000) (hsj:us[j].size≤1000000) (hil:i≤1000000) (hjl:j≤1000000) :
  Calls Tryz.prog 158 #[.agg #[.int .i64 (i:Int),.int .i64 (j:Int)],.pointer (some ⟨Bx,0,none⟩),.int .i64 1] w (ArgAns w (Lfc.chain0 ks ts[i] us[j] 2)):=by
 obtain ⟨b,o,k1,n1,p1,xs,B,c1,rfl,hb,ht,d0,d1,d2,d3,hcu,hB,hT⟩:=hP.ts.at_ hi
 obtain ⟨b',o',k2,n2,p2,ys,B',c2,rfl,hb',ht',e0,e1,e2,e3,hcu',hB',hT'⟩:=hP.us.at_ hj
 obtain ⟨t,hT0⟩:∃t,ts[i]=t:=⟨_,rfl⟩
 obtain ⟨u,hU0⟩:∃u,us[j]=u:=⟨_,rfl⟩
 rw [hT0] at hsi hT ⊢
 rw [hU0] at hsj hT' ⊢
 have HP:=zH hP
 have HT:=zH hT
 have HT':=zH hT'
 obtain ⟨nts,hnts⟩:∃n,ts.length=n:=⟨_,rfl⟩
 obtain ⟨nus,hnus⟩:∃n,us.length=n:=⟨_,rfl⟩
 obtain ⟨w1,hw1⟩:∃w1,w.alloc (.cells #[.int .i64 (i:Int),.int .i64 (j:Int)] 123)=w1:=⟨_,rfl⟩
 obtain ⟨w2,hw2⟩:∃w2,w1.alloc (.cells #[.int .i64 0,.slice none 0 0,.slice none 0 0,.slice none 0 0] 39)=w2:=⟨_,rfl⟩
 have b1:=zG hw1
 have b2:=zG hw2
 have q1:=zQ hw1
 have q2:=zQ hw2
 have l1:=zL q1
 have l2:=zL q2
 have b02:Below w.heap.size w w2:=b1.trans (b2.mono (by omega))
 have B02:=zH b02
 have s02:w.heap.size≤w2.heap.size:=by omega
 have Q2:=zH q2
 obtain ⟨y0,y1⟩:=cells2e ((b2.block _ l1).trans q1)
 have hp2:=hP.below b02
 have x2:=hp2.left
 have x3:=hp2.right
 rw [hnts] at x2 hi
 rw [hnus] at x3 hj
 have f0':=(b02.cell (p:=⟨b,o+i*4,none⟩) hb).trans d0
 have f1':=(b02.cell (p:=⟨b,o+i*4+1,none⟩) hb).trans d1
 have f2':=(b02.cell (p:=⟨b,o+i*4+2,none⟩) hb).trans d2
 have f3':=(b02.cell (p:=⟨b,o+i*4+3,none⟩) hb).trans d3
 have g0':=(b02.cell (p:=⟨b',o'+j*4,none⟩) hb').trans e0
 have g1':=(b02.cell (p:=⟨b',o'+j*4+1,none⟩) hb').trans e1
 have g2':=(b02.cell (p:=⟨b',o'+j*4+2,none⟩) hb').trans e2
 have g3':=(b02.cell (p:=⟨b',o'+j*4+3,none⟩) hb').trans e3
 have SX:Hid ((w2.cell? ⟨Bx,2,none⟩=some (.slice (some ⟨b,o,none⟩) nts cl)∧w2.cell? ⟨Bx,3,none⟩=some (.slice (some ⟨b',o',none⟩) nus cr))∧(w2.cell? ⟨w.heap.size,0,none⟩=some (.int .i64 (i:Int))∧w2.cell? ⟨w.heap.size,1,none⟩=some (.int .i64 (j:Int)))∧(w2.cell? ⟨b,o+i*4,none⟩=some (.int .i64 k1)∧w2.cell? ⟨b,o+i*4+1,none⟩=some (S n1)∧w2.cell? ⟨b,o+i*4+2,none⟩=some (.int .i64 p1)∧w2.cell? ⟨b,o+i*4+3,none⟩=some (.slice B xs.length c1))∧(w2.cell? ⟨b',o'+j*4,none⟩=some (.int .i64 k2)∧w2.cell? ⟨b',o'+j*4+1,none⟩=some (S n2)∧w2.cell? ⟨b',o'+j*4+2,none⟩=some (.int .i64 p2)∧w2.cell? ⟨b',o'+j*4+3,none⟩=some (.slice B' ys.length c2))):=zH ⟨⟨x2,x3⟩,⟨y0,y1⟩,⟨f0',f1',f2',f3'⟩,⟨g0',g1',g2',g3'⟩⟩
 have m1:=World.new_ne w2 _ x2
 have m2:=World.new_ne w2 _ y0
 have m3:=World.new_ne w2 _ f0'
 have m4:=World.new_ne w2 _ g0'
 simp only at m1 m2 m3 m4
 have hi0:(0:Int)≤(i:Int):=Int.natCast_nonneg _
 have hi1:(i:Int)<(nts:Int):=by omega
 have hj0:(0:Int)≤(j:Int):=Int.natCast_nonneg _
 have hj1:(j:Int)<(nus:Int):=by omega
 obtain ⟨r,hr⟩:∃r,Lfc.chain0 ks t u 2=r:=⟨_,rfl⟩
 rw [hr]
 have HR:=zH hr
 clear hr hT hT' hP hp2 q1 q2 b1 b2 b02 ht ht' hB hB' d0 d1 d2 d3 e0 e1 e2 e3 hT0 hU0 hnts hnus
 go_enter Tryz.func158,Tryz.ntmps158
 go_upto_region 1 with fail
 clear hw1 hw2
 go_region_held3 (fun W=>(W.cell? ⟨Bx,2,none⟩=some (.slice (some ⟨b,o,none⟩) nts cl)∧W.cell? ⟨Bx,3,none⟩=some (.slice (some ⟨b',o',none⟩) nus cr))∧(W.cell? ⟨w.heap.size,0,none⟩=some (.int .i64 (i:Int))∧W.cell? ⟨w.heap.size,1,none⟩=some (.int .i64 (j:Int)))∧(W.cell? ⟨b,o+i*4,none⟩=some (.int .i64 k1)∧W.cell? ⟨b,o+i*4+1,none⟩=some (S n1)∧W.cell? ⟨b,o+i*4+2,none⟩=some (.int .i64 p1)∧W.cell? ⟨b,o+i*4+3,none⟩=some (.slice B xs.length c1))∧(W.cell? ⟨b',o'+j*4,none⟩=some (.int .i64 k2)∧W.cell? ⟨b',o'+j*4+1,none⟩=some (S n2)∧W.cell? ⟨b',o'+j*4+2,none⟩=some (.int .i64 p2)∧W.cell? ⟨b',o'+j*4+3,none⟩=some (.slice B' ys.length c2)))
  (first | exact SX.out | go_keep)
  (fail)
 ·obtain ⟨w5,hw5⟩:∃w5,((w2.alloc (.cells #[.int .i64 k1,S n1,.int .i64 p1,.slice B xs.length c1] 51)).alloc (.cells #[.int .i64 k2,S n2,.int .i64 p2,.slice B' ys.length c2] 51)).drew=w5:=⟨_,rfl⟩
  rw [hw5]
  have b5:Below w2.heap.size w2 w5:=by rw [←hw5];exact (((zB _ _).alloc (zN _) _).alloc (by simp) _).drew
  have s5:w5.heap.size=w2.heap.size+2:=by rw [←hw5];simp [World.drew]
  have qa:w5.heap[w2.heap.size]?=some (.cells #[.int .i64 k1,S n1,.int .i64 p1,.slice B xs.length c1] 51 (0,0)):=by
   rw [←hw5]
   exact (Below.heap_alloc _ _ _ (by simp)).trans (zW _ _)
  have qb:w5.heap[w2.heap.size+1]?=some (.cells #[.int .i64 k2,S n2,.int .i64 p2,.slice B' ys.length c2] 51 (0,0)):=by
   rw [←hw5]
   exact two_alloc _ _ _
  obtain ⟨y0,y1,y2,y3⟩:=cells4t qa
  obtain ⟨z0,z1,z2,z3⟩:=cells4t qb
  have hp5:=HP.out.below (B02.out.trans (b5.mono s02))
  have CH:=zH (oChain0_any Bx ks A0 F0 c0 f0 2 t u _ _ w5 hks hsi hsj hp5.ks (HT.out.below (B02.out.trans (b5.mono s02))) (HT'.out.below (B02.out.trans (b5.mono s02))) hp5.facts hp5.kinds hp5.lt)
  rw [HR.out] at CH
  have B5:=zH (B02.out.trans (b5.mono s02))
  have Q5:=zH ((b5.block _ l2).trans Q2.out)
  clear hw5 hp5 qa qb b5
  go_wp2_with fail
  refine CH.out.mono ?_
  rintro e w6 ⟨⟨rfl,rfl⟩ | ⟨l,Al,cll,rfl,rfl,hcl,hl⟩,b6⟩
  ·obtain ⟨s1,s2,s3,s4,h1,h2,h3,h4,⟨c0',c1',c2',c3'⟩,⟨t0,t1,t2,t3⟩,hq,ho⟩:=put4 ((b6.block _ (by omega)).trans Q5.out) (.int .i64 0) (.slice none 0 0) (.slice none 0 0) (.slice none 0 0)
   have HQ:=zH hq
   have HZ:Hid (ArgAns w none (.returned (.tuple #[.agg #[.int .i64 0,.slice none 0 0,.slice none 0 0,.slice none 0 0],.bool false])) s4):=zH ⟨.inl ⟨rfl,rfl⟩,Oth.below (B5.out.trans (b6.mono B5.out.size)) ho (by omega) (Nat.le_trans B5.out.size b6.size)⟩
   clear hq ho b6 y0 y1 y2 y3 z0 z1 z2 z3 CH
   go_wp2_with fail
   refine bodyPost_ret (results_proof2 rfl _ _ _ _ _ _ _ rfl HQ.out) rfl ?_
   exact HZ.out
  obtain ⟨s1,s2,s3,s4,h1,h2,h3,h4,⟨c0',c1',c2',c3'⟩,⟨t0,t1,t2,t3⟩,hq,ho⟩:=put4 ((b6.block _ (by omega)).trans Q5.out) (.int .i64 0) (.slice none 0 0) (.slice Al l.length cll) (.slice none 0 0)
  have HQ:=zH hq
  have HZ:Hid (ArgAns w (some l) (.returned (.tuple #[.agg #[.int .i64 0,.slice none 0 0,.slice Al l.length cll,.slice none 0 0],.bool true])) s4):=zH ⟨.inr ⟨l,Al,cll,rfl,rfl,hcl,hl.keep (fun b hb hlt=>ho.block b hlt (fun e=>by have e:=zO e;have hb:w5.heap.size≤b:=hb;omega)) ho.size (fun b _ hb=>Nat.le_trans B5.out.size hb)⟩,Oth.below (B5.out.trans (b6.mono B5.out.size)) ho (by omega) (Nat.le_trans B5.out.size b6.size)⟩
  clear hq ho b6 y0 y1 y2 y3 z0 z1 z2 z3 CH hl
  go_wp2_with fail
  refine bodyPost_ret (results_proof2 rfl _ _ _ _ _ _ _ rfl HQ.out) rfl ?_
  exact HZ.out
 obtain ⟨w5,hw5⟩:∃w5,((w2.alloc (.cells #[.int .i64 k2,S n2,.int .i64 p2,.slice B' ys.length c2] 51)).alloc (.cells #[.int .i64 k1,S n1,.int .i64 p1,.slice B xs.length c1] 51)).drew=w5:=⟨_,rfl⟩
 rw [hw5]
 have b5:Below w2.heap.size w2 w5:=by rw [←hw5];exact (((zB _ _).alloc (zN _) _).alloc (by simp) _).drew
 have s5:w5.heap.size=w2.heap.size+2:=by rw [←hw5];simp [World.drew]
 have qa:w5.heap[w2.heap.size]?=some (.cells #[.int .i64 k2,S n2,.int .i64 p2,.slice B' ys.length c2] 51 (0,0)):=by
  rw [←hw5]
  exact (Below.heap_alloc _ _ _ (by simp)).trans (zW _ _)
 have qb:w5.heap[w2.heap.size+1]?=some (.cells #[.int .i64 k1,S n1,.int .i64 p1,.slice B xs.length c1] 51 (0,0)):=by
  rw [←hw5]
  exact two_alloc _ _ _
 obtain ⟨y0,y1,y2,y3⟩:=cells4t qb
 obtain ⟨z0,z1,z2,z3⟩:=cells4t qa
 have hp5:=HP.out.below (B02.out.trans (b5.mono s02))
 have CH:=zH (oChain0_any Bx ks A0 F0 c0 f0 2 t u _ _ w5 hks hsi hsj hp5.ks (HT.out.below (B02.out.trans (b5.mono s02))) (HT'.out.below (B02.out.trans (b5.mono s02))) hp5.facts hp5.kinds hp5.lt)
 rw [HR.out] at CH
 have B5:=zH (B02.out.trans (b5.mono s02))
 have Q5:=zH ((b5.block _ l2).trans Q2.out)
 clear hw5 hp5 qa qb b5
 go_wp2_with fail
 refine CH.out.mono ?_
 rintro e w6 ⟨⟨rfl,rfl⟩ | ⟨l,Al,cll,rfl,rfl,hcl,hl⟩,b6⟩
 ·obtain ⟨s1,s2,s3,s4,h1,h2,h3,h4,⟨c0',c1',c2',c3'⟩,⟨t0,t1,t2,t3⟩,hq,ho⟩:=put4 ((b6.block _ (by omega)).trans Q5.out) (.int .i64 0) (.slice none 0 0) (.slice none 0 0) (.slice none 0 0)
  have HQ:=zH hq
  have HZ:Hid (ArgAns w none (.returned (.tuple #[.agg #[.int .i64 0,.slice none 0 0,.slice none 0 0,.slice none 0 0],.bool false])) s4):=zH ⟨.inl ⟨rfl,rfl⟩,Oth.below (B5.out.trans (b6.mono B5.out.size)) ho (by omega) (Nat.le_trans B5.out.size b6.size)⟩
  clear hq ho b6 y0 y1 y2 y3 z0 z1 z2 z3 CH
  go_wp2_with fail
  refine bodyPost_ret (results_proof2 rfl _ _ _ _ _ _ _ rfl HQ.out) rfl ?_
  exact HZ.out
 obtain ⟨s1,s2,s3,s4,h1,h2,h3,h4,⟨c0',c1',c2',c3'⟩,⟨t0,t1,t2,t3⟩,hq,ho⟩:=put4 ((b6.block _ (by omega)).trans Q5.out) (.int .i64 0) (.slice none 0 0) (.slice Al l.length cll) (.slice none 0 0)
 have HQ:=zH hq
 have HZ:Hid (ArgAns w (some l) (.returned (.tuple #[.agg #[.int .i64 0,.slice none 0 0,.slice Al l.length cll,.slice none 0 0],.bool true])) s4):=zH ⟨.inr ⟨l,Al,cll,rfl,rfl,hcl,hl.keep (fun b hb hlt=>ho.block b hlt (fun e=>by have e:=zO e;have hb:w5.heap.size≤b:=hb;omega)) ho.size (fun b _ hb=>Nat.le_trans B5.out.size hb)⟩,Oth.below (B5.out.trans (b6.mono B5.out.size)) ho (by omega) (Nat.le_trans B5.out.size b6.size)⟩
 clear hq ho b6 y0 y1 y2 y3 z0 z1 z2 z3 CH hl
 go_wp2_with fail
 refine bodyPost_ret (results_proof2 rfl _ _ _ _ _ _ _ rfl HQ.out) rfl ?_
 exact HZ.out
end Go.Proofs.YtadjpadieljjlaaGreat
namespace Go.Proofs.YtadjpadieljjlaaGreat
open Go.RowKit
theorem oBothArg_any (a b:Int) (w:World) :
  Calls Tryz.prog 36 #[.agg #[.int .i64 1,.int .i64 a,.slice none 0 0],.agg #[.int .i64 1,.int .i64 b,.slice none 0 0]] w fun e w'=>e=.returned (.iface 123 (.agg #[.int .i64 a,.int .i64 b]))∧Below w.heap.size w w':=by
 obtain ⟨w1,hw1⟩:∃w1,w.alloc (.cells #[.int .i64 1,.int .i64 a,.slice none 0 0] 26)=w1:=⟨_,rfl⟩
 obtain ⟨w2,hw2⟩:∃w2,w1.alloc (.cells #[.int .i64 1,.int .i64 b,.slice none 0 0] 26)=w2:=⟨_,rfl⟩
 have b1:=zG hw1
 have b2:=zG hw2
 have q1:=zQ hw1
 have q2:=zQ hw2
 have l1:=zL q1
 have b02:Below w.heap.size w w2:=b1.trans (b2.mono (by omega))
 have HB:=zH b02
 obtain ⟨y0,y1,y2⟩:=cells3o ((b2.block _ l1).trans q1)
 obtain ⟨z0,z1,z2⟩:=cells3o q2
 clear b1 b2 q1 q2 b02
 go_enter Tryz.func36,Tryz.ntmps36
 go_wp2_with fail
 go_loopw [10] (fun i wr=>i=.int .i64 0∧wr=w2) (fun i _=>0)
 case atStart=>exact ⟨rfl,rfl⟩
 obtain ⟨rfl,hwx⟩:=hrel
 subst hwx
 go_wp2_with fail
 go_ret
 exact ⟨rfl,HB.out⟩
end Go.Proofs.YtadjpadieljjlaaGreat
namespace Go.Proofs.YtadjpadieljjlaaGreat
open Go.RowKit Go.Maps
theorem growT_any (n:Nat) (w:World) (hn:n≤10000000) :
  Calls Tryz.prog 89 #[.slice none 0 0,.int .i64 (n:Int)] w fun e w'=>(∃v,e=.returned v∧w'.ownsRow w.heap.size 51 4 v 0 [])∧Below w.heap.size w w':=by
 obtain ⟨i0,hi,hz0,hz1,hz2⟩:=info_parts termInfo
 by_cases h0:n=0
 ·subst h0
  have h2:IntKind.i64.wrap (0-0)=0:=by decide
  simp only [Int.natCast_zero]
  go_enter Tryz.func89,Tryz.ntmps89
  go_wp2_with fail
  go_ret
  exact ⟨⟨_,rfl,World.ownsRow_nil w w.heap.size _ 4⟩,zB _ _⟩
 have hn0:¬ ((n:Int)<0):=by omega
 have h1:IntKind.i64.wrap (0-0)=0:=by decide
 have h2:IntKind.i64.wrap ((n:Int)-0)=(n:Int):=by rw [IntWalk.i64_in _ (by omega)];omega
 have h3:(n:Int)>0:=by omega
 have h4:decide ((n:Int)>0)=true:=by rw [decide_eq_true_eq];exact h3
 have h5:decide ((n:Int)<0)=false:=by rw [decide_eq_false_iff_not];exact hn0
 have hold:(Builtin.firstCells i0.size 0 (.slice none 0 0)).run Tryz.prog w.drew=.ok (#[]:Array Value) w.drew:=run_firstCells_none w.drew i0.size 0 0 0
 have hr:∀ty,(Builtin.append_ #[27,3] ty #[.slice none 0 0,.int .i64 (n:Int)]).run Tryz.prog w=.ok (.slice (some ⟨w.heap.size,0,none⟩) n (grownCap w n 0 51)) (w.drew.alloc (.cells (Builtin.zeroCells #[.int .i64 0,S [],.int .i64 0,.slice none 0 0] n++Builtin.zeroCells #[.int .i64 0,S [],.int .i64 0,.slice none 0 0] (grownCap w n 0 51-n)) 51)):=fun ty=>by
  have h:=Lib.run_append_grow_zeros w 27 3 ty 51 i0 _ .i64 .i64 Tryz.underlying27 Tryz.underlying3 hi hz0 none 0 0 [] hold n (by omega) (by omega) (by omega) (by omega) (by rw [hz2];omega) (by rw [Nat.zero_add];exact growslice_fits (by omega) (by rw [hz2];omega))
  rw [show (Value.agg #[.int .i64 0,S [],.int .i64 0,.slice none 0 0]).cells=#[.int .i64 0,S [],.int .i64 0,.slice none 0 0] from rfl] at h
  simpa using h
 have hG:=grownCap_ge w n 0 51
 have hG2:=grownCap_le_maxLen w n 0 51 (by unfold maxLen;omega)
 obtain ⟨G,hG0⟩:∃G,grownCap w n 0 51=G:=⟨_,rfl⟩
 rw [hG0] at hr hG hG2
 obtain ⟨w1,hw1⟩:∃w1,w.drew.alloc (.cells (Builtin.zeroCells #[.int .i64 0,S [],.int .i64 0,.slice none 0 0] n++Builtin.zeroCells #[.int .i64 0,S [],.int .i64 0,.slice none 0 0] (G-n)) 51)=w1:=⟨_,rfl⟩
 rw [hw1] at hr
 have HZ:Hid (w1.ownsRow w.heap.size 51 4 (.slice (some ⟨w.heap.size,0,none⟩) 0 G) 0 []∧Below w.heap.size w w1):=zH (by
  refine ⟨⟨rfl,.inr ⟨w.heap.size,G,_,rfl,zN _,by rw [←hw1];exact zW w.drew _,Nat.zero_le _,hG2,?_,?_⟩⟩,?_⟩
  ·rw [Array.size_append,size_zeroCells,size_zeroCells]
   show n*4+(G-n)*4=G*4
   omega
  ·simp
  rw [←hw1];exact ((zB _ _).drew).alloc (zN _) _)
 have hG3:(0:Int)≤(G:Int):=Int.natCast_nonneg _
 unfold maxLen at hG2
 clear hG0 hw1 hold
 go_enter Tryz.func89,Tryz.ntmps89
 go_wp2_with (at_builtin;refine Lib.wpList_append_run _ rfl _ _ _ _ rfl _ _ rfl rfl _ _ (hr _) ?_)
 all_goals
  go_ret
  exact ⟨⟨_,rfl,HZ.out.1⟩,HZ.out.2⟩
end Go.Proofs.YtadjpadieljjlaaGreat
